/- The plain law of TransRises: a greater number has no lesser one in another form. -/
import Derived.Test.YtnbkjlebphmpnaaDoorTurnB
import Derived.Test.YtnbkjlebphmpnaaDoorMono
import Derived.Test.YtnbkjlebphmpnaaDoorPrx9
set_option linter.unusedVariables false
set_option linter.unusedSimpArgs false
namespace Go.Proofs.YtnbkjlebphmpnaaDoor.Pr
open Go.RowKit Go.Proofs.YtnbkjlebphmpnaaDoorW.PrintWords Go.Proofs.YtnbkjlebphmpnaaDoorW.PrintLast Go.Proofs.YtnbkjlebphmpnaaDoorW.PrintMore

/-- A key's number, told in another form with Saturate: a key again. -/
theorem key_turn {a0 a1 : Int} (h1 : 1 ≤ a0) (h2 : a0 ≤ 14) (t1 : 1 ≤ a1) (t2 : a1 ≤ 14) {a : Nat} (ha : 0 < a) (hk : a ≤ mostK a0 false) :
    ∃ (m : Nat) (e : Int) (l : List Int) (t : Int) (key : Nat) (over : Bool), Ev (fun k => trans_Turn.f k a0 a1 1 (a : Int)) ((patN a1 false key : Int), 0) ∧ key ≤ mostK a1 false ∧ Rt l t 0 ∧ mag l t 0 = bmag m e ∧ Least a0 (bmag m e) (mostK a0 false) a ∧ NearOut a1 false l (mag l t 0) key over := by
  have hn : ∀ id : Int, ¬ ((false : Bool) = true ∧ id = 11) := by simp
  have hpa : patN a0 false a = a := rfl
  have hw := patN_lt h1 h2 hk (hn a0)
  obtain ⟨c1, c2⟩ := cls_pat h1 h2 hk (hn a0)
  rw [hpa] at c1 c2 hw
  rw [if_neg (fun h => by omega)] at c1
  obtain ⟨b, m, e, l, t, d1, d2, hr, _, hL⟩ := num_pat h1 h2 (mode := 1) (.inl rfl) hw (.inr c1)
  obtain ⟨m', rfl, hmag, hne, hL⟩ := hL c1
  rw [c1] at d1 d2
  have hb : b = false := by
    obtain ⟨b', m2, e2, hd2, hb2⟩ := decode_pat h1 h2 hk (hn a0)
    rw [hpa, d1] at hd2
    simp only [Option.some.injEq, Prod.mk.injEq] at hd2
    rw [hd2.2.1, hb2]
    simp
  subst hb
  rw [c2] at hL
  obtain ⟨q, hq, hR⟩ := round_Round_spec t1 t2 (mode := 1) (.inl rfl) false hr
  have hT := turn_num d1 (.inr rfl) d2 t1 t2 (.inl rfl) hq
  rcases hR with ⟨_, r2, _⟩ | ⟨_, ⟨r2, rfl⟩ | ⟨x, r2, rfl⟩⟩
  · exfalso
    rcases r2 with r2 | r2
    · cases r2
    · exact hne r2
  · refine ⟨m', e, l, t, mostK a1 false, true, ?_, Nat.le_refl _, hr, hmag, hL, .inl ⟨rfl, rfl, r2⟩⟩
    have : largeN a1 1 false = (patN a1 false (mostK a1 false) : Int) := by
      unfold largeN
      rw [if_pos (.inl rfl)]
    rw [← this]
    exact hT
  · exact ⟨m', e, l, t, _, false, hT, told_le t1 t2 r2.le, hr, hmag, hL, .inr ⟨rfl, x, r2, rfl⟩⟩
theorem least_le {id X Y : Int} {M a b : Nat} (hX : Least id X M a) (hY : Least id Y M b) (h : a < b) : X ≤ Y := by
  have h1 := hX.yes
  have h2 := hY.no a h
  rw [wt_true] at h1
  rw [wt_false] at h2
  omega
theorem TRises_pure (a0 a1 a2 a3 : Int) (b00 : -9223372036854775808 ≤ a0) (b01 : a0 ≤ 9223372036854775807) (b10 : -9223372036854775808 ≤ a1) (b11 : a1 ≤ 9223372036854775807) (b0 : 0 ≤ a2) (b1 : a2 ≤ 18446744073709551615) (c0 : 0 ≤ a3) (c1 : a3 ≤ 18446744073709551615) : ∃ k, caliperlaw14_TransRises.f k a0 a1 a2 a3 = some true := by
  obtain ⟨a, rfl⟩ := Int.eq_ofNat_of_zero_le b0
  obtain ⟨b, rfl⟩ := Int.eq_ofNat_of_zero_le c0
  obtain ⟨K0, hK0⟩ := shown14
  have hn : ∀ id : Int, ¬ ((false : Bool) = true ∧ id = 11) := by simp
  -- where an error is, the law says no more
  have easy : ∀ {x1 y1 : Nat} {x2 y2 : Int}, x1 < 18446744073709551616 → y1 < 18446744073709551616 → value_Pattern.f a0 false (a : Int) = some ((x1 : Int), x2) → value_Pattern.f a0 false (b : Int) = some ((y1 : Int), y2) →
      (∀ r s : Int × Int, Ev (fun k => trans_Turn.f k a0 a1 1 (x1 : Int)) r → Ev (fun k => trans_Turn.f k a0 a1 1 (y1 : Int)) s → ¬ (x2 = 0 ∧ y2 = 0 ∧ r.2 = 0 ∧ s.2 = 0 ∧ a ≠ 0 ∧ b ≠ 0)) → ∃ k, caliperlaw14_TransRises.f k a0 a1 (a : Int) (b : Int) = some true := by
    intro x1 y1 x2 y2 hx hy hpx hpy hno
    obtain ⟨r, hr⟩ := turn_some a0 hx a1 (mode := 1) (.inl rfl)
    obtain ⟨s, hs⟩ := turn_some a0 hy a1 (mode := 1) (.inl rfl)
    have hno := hno r s hr hs
    obtain ⟨K1, hK1⟩ := hr
    obtain ⟨K2, hK2⟩ := hs
    refine ⟨K0 + K1 + K2 + 1, ?_⟩
    have r0 := hK0 (K0 + K1 + K2 + 1) (by omega)
    have r1 := hK1 (K0 + K1 + K2 + 1) (by omega)
    have r2 := hK2 (K0 + K1 + K2 + 1) (by omega)
    simp only at r0 r1 r2
    have j : ∀ u v, caliperlaw14_TransRises.j0 (K0 + K1 + K2 + 1) a1 (a : Int) (b : Int) true u v true = some true := fun u v => by
      simp only [caliperlaw14_TransRises.j0, if_true]
    simp only [caliperlaw14_TransRises.f, r0, hpx, hpy, r1, r2, Option.bind_some, j]
    by_cases k1 : x2 = 0
    · rw [if_pos k1]
      by_cases k2 : y2 = 0
      · rw [if_pos k2]
        by_cases k3 : r.2 = 0
        · rw [if_pos k3]
          by_cases k4 : s.2 = 0
          · rw [if_pos k4]
            by_cases k5 : a = 0
            · rw [if_pos (by omega)]
            · rw [if_neg (by omega)]
              have k6 : b = 0 := Classical.byContradiction fun h => hno ⟨k1, k2, k3, k4, k5, h⟩
              have e6 : ((b : Int) == 0) = true := beq_iff_eq.2 (by omega)
              rw [e6, j]
          · rw [if_neg k4]
        · rw [if_neg k3]
      · rw [if_neg k2]
    · rw [if_neg k1]
  have pat : ∀ x : Nat, ∃ (y : Nat) (e : Int), y < 18446744073709551616 ∧ value_Pattern.f a0 false (x : Int) = some ((y : Int), e) ∧ (e = 0 → 1 ≤ a0 ∧ a0 ≤ 14 ∧ x ≤ mostK a0 false ∧ y = x) := by
    intro x
    by_cases hid : 1 ≤ a0 ∧ a0 ≤ 14
    · obtain ⟨h1, h2⟩ := hid
      obtain ⟨m1, m2, m3, m4, m5, m6⟩ := most_spec h1 h2 false (hn a0)
      by_cases hx : x ≤ mostK a0 false
      · have hw := patN_lt h1 h2 hx (hn a0)
        have := wid_pow h1 h2
        exact ⟨_, 0, by omega, pat_spec h1 h2 hx (hn a0), fun _ => ⟨h1, h2, hx, rfl⟩⟩
      · refine ⟨0, 4, by decide, ?_, fun h => absurd h (by decide)⟩
        unfold value_Pattern.f
        rw [m1, Option.bind_some, if_pos rfl, if_pos (by omega)]
        rfl
    · refine ⟨0, 3, by decide, ?_, fun h => absurd h (by decide)⟩
      have hm : value_Most.f a0 false = some (0, 3) := by
        unfold value_Most.f
        rw [forms_bad hid]
        rfl
      unfold value_Pattern.f
      rw [hm, Option.bind_some, if_neg (by decide)]
      rfl
  obtain ⟨x1, x2, hx, hpx, hx0⟩ := pat a
  obtain ⟨y1, y2, hy, hpy, hy0⟩ := pat b
  by_cases hok : x2 = 0 ∧ y2 = 0 ∧ (1 ≤ a1 ∧ a1 ≤ 14) ∧ a ≠ 0 ∧ b ≠ 0
  · obtain ⟨rfl, rfl, ⟨t1, t2⟩, ha, hb⟩ := hok
    obtain ⟨h1, h2, hak, rfl⟩ := hx0 rfl
    obtain ⟨_, _, hbk, rfl⟩ := hy0 rfl
    obtain ⟨m, e, l, t, key, over, ⟨K1, hK1⟩, hkey, hr, hmag, hL, hN⟩ := key_turn h1 h2 t1 t2 (Nat.pos_of_ne_zero ha) hak
    obtain ⟨m', e', l', t', key', over', ⟨K2, hK2⟩, hkey', hr', hmag', hL', hN'⟩ := key_turn h1 h2 t1 t2 (Nat.pos_of_ne_zero hb) hbk
    have heq : x1 = y1 → key = key' := by
      rintro rfl
      have := Ev.uniq ⟨K1, hK1⟩ ⟨K2, hK2⟩
      simp only [Prod.mk.injEq, and_true] at this
      exact Int.ofNat.inj this
    have hle : x1 ≤ y1 → key ≤ key' := fun h => by
      rcases Nat.lt_or_ge x1 y1 with h3 | h3
      · refine (near_mono t1 t2 (hn a1) hr hr' hN hN' ?_).1
        rw [hmag, hmag']
        exact least_le hL hL' h3
      · exact Nat.le_of_eq (heq (by omega))
    have hge : y1 ≤ x1 → key' ≤ key := fun h => by
      rcases Nat.lt_or_ge y1 x1 with h3 | h3
      · refine (near_mono t1 t2 (hn a1) hr' hr hN' hN ?_).1
        rw [hmag, hmag']
        exact least_le hL' hL h3
      · exact Nat.le_of_eq (heq (by omega)).symm
    refine ⟨K0 + K1 + K2 + 1, ?_⟩
    have r0 := hK0 (K0 + K1 + K2 + 1) (by omega)
    have r1 := hK1 (K0 + K1 + K2 + 1) (by omega)
    have r2 := hK2 (K0 + K1 + K2 + 1) (by omega)
    simp only at r0 r1 r2
    have kb : ((y1 : Int) == 0) = false := beq_eq_false_iff_ne.2 (by omega)
    simp only [caliperlaw14_TransRises.f, r0, hpx, hpy, r1, r2, Option.bind_some, if_true]
    rw [if_neg (by omega), kb]
    simp only [caliperlaw14_TransRises.j0, key_pat t1 t2 hkey, key_pat t1 t2 hkey', Option.bind_some, if_true]
    rw [if_neg (by decide)]
    by_cases g1 : (x1 : Int) > (y1 : Int)
    · have := hge (by omega)
      rw [if_pos g1, if_neg (by omega), decide_eq_true (by omega)]
    · have := hle (by omega)
      rw [if_neg g1, if_pos (by omega)]
      by_cases g2 : (x1 : Int) < (y1 : Int)
      · rw [if_pos g2]
      · have := hge (by omega)
        rw [if_neg g2, decide_eq_true (by omega)]
  · refine easy hx hy hpx hpy fun r s hr hs hall => hok ⟨hall.1, hall.2.1, ?_, hall.2.2.2.2.1, hall.2.2.2.2.2⟩
    refine Classical.byContradiction fun ht => ?_
    rcases decode_cases a0 hx with ⟨er, he, hd⟩ | ⟨h1, h2, hw, c, b', m, e, hd, hv, hcl⟩
    · have := hr.uniq (Ev.of fun k => turn_err he hd a1 1 k)
      rw [this] at hall
      exact he hall.2.2.1
    · have := hr.uniq (Ev.of fun k => turn_bad hd ht 1 k)
      rw [this] at hall
      exact absurd hall.2.2.1 (by decide)
end Go.Proofs.YtnbkjlebphmpnaaDoor.Pr
