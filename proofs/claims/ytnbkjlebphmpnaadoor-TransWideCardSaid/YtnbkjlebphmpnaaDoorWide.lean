/- A small form's numbers are a wide form's: keys of Binary64 and of posits of twice the width. -/
import Derived.Test.YtnbkjlebphmpnaaDoorTurnB
set_option linter.unusedVariables false
set_option linter.unusedSimpArgs false
namespace Go.Proofs.YtnbkjlebphmpnaaDoor.Pr
open Go.RowKit Go.Proofs.YtnbkjlebphmpnaaDoorW.PrintWords Go.Proofs.YtnbkjlebphmpnaaDoorW.PrintLast Go.Proofs.YtnbkjlebphmpnaaDoorW.PrintMore

theorem tz_m_odd {x : Int} {t : Int} (h : bits_TrailingZeros64.f x = some t) {m : Nat} (hm : shr .u64 x t = (m : Int)) (h0 : 0 < m) : m % 2 = 1 := by
  unfold bits_TrailingZeros64.f at h
  by_cases hw : Wd x
  · have hw' := hw
    obtain ⟨n, rfl⟩ := Int.eq_ofNat_of_zero_le hw.1
    have hn : n < 18446744073709551616 := by have := hw.2; omega
    by_cases hz : n = 0
    · subst hz
      exfalso
      have e : shr .u64 (((0 : Nat)) : Int) t = 0 := by unfold shr; simp
      rw [e] at hm
      omega
    · obtain ⟨t', m', a1, a2, a3, a4, a5⟩ := tz_odd (x := n) (by omega) hn
      unfold bits_TrailingZeros64.f at a1
      rw [if_pos hw'] at a1 h
      rw [a1] at h
      obtain rfl := Option.some.inj h
      rw [a5] at hm
      obtain rfl : m' = m := Int.ofNat.inj hm
      obtain ⟨u, hu, hut⟩ := Go.Lib.ctzFrom_spec 64 n (by omega) (by omega)
      have hte : t' = Go.Lib.ctzFrom 64 n := by
        have := Option.some.inj a1
        rw [Int.toNat_natCast] at this
        simp only [Go.Lib.ctz] at this
        rw [if_neg (by omega)] at this
        exact (Int.ofNat.inj this).symm
      rw [hte] at a3
      have hp := Nat.two_pow_pos (Go.Lib.ctzFrom 64 n)
      generalize Go.Lib.ctzFrom 64 n = c at *
      have : m' = 2 * u + 1 := by
        have e2 : m' * 2 ^ c = (2 * u + 1) * 2 ^ c := by rw [← a3, Nat.mul_comm (2 * u + 1)]; exact hu
        exact Nat.eq_of_mul_eq_mul_right hp e2
      omega
  · rw [if_neg hw] at h
    cases h
theorem posit_odd_m {x e : Int} {m : Nat} {e' : Int} (h : posit_odd.f x e = some ((m : Int), e')) (h0 : 0 < m) : m % 2 = 1 := by
  unfold posit_odd.f at h
  obtain ⟨t, h1, h2⟩ := Option.bind_eq_some_iff.1 h
  split at h2
  · simp only [Option.some.injEq, Prod.mk.injEq] at h2
    exact tz_m_odd h1 h2.1 h0
  · cases h2
theorem posit_value_m {k : Nat} {x e : Int} {m : Nat} {e' : Int} (h : posit_value.f k x e = some ((m : Int), e')) (h0 : 0 < m) : m % 2 = 1 := by
  unfold posit_value.f at h
  obtain ⟨t, h1, h2⟩ := Option.bind_eq_some_iff.1 h
  split at h2
  · obtain ⟨u, h3, h4⟩ := Option.bind_eq_some_iff.1 h2
    simp only [Option.some.injEq, Prod.mk.injEq] at h4
    obtain ⟨u1, u2⟩ := u
    simp only at h4
    obtain ⟨rfl, rfl⟩ := h4
    exact posit_odd_m h3 h0
  · cases h2
theorem value_odd_m {x e : Int} {m : Nat} {e' : Int} (h : value_odd.f x e = some ((m : Int), e')) (h0 : 0 < m) : m % 2 = 1 := by
  unfold value_odd.f at h
  split at h
  · simp only [Option.some.injEq, Prod.mk.injEq] at h
    omega
  · obtain ⟨t, h1, h2⟩ := Option.bind_eq_some_iff.1 h
    split at h2
    · simp only [Option.some.injEq, Prod.mk.injEq] at h2
      exact tz_m_odd h1 h2.1 h0
    · cases h2
theorem mini_value_m {k : Nat} {x y z : Int} {m : Nat} {e' e2 : Int} (h : mini_Value.f k x y z = some ((m : Int), e', e2)) (h0 : 0 < m) : m % 2 = 1 := by
  have hj : ∀ (j : Nat) (x0 x1 x2 x9 x10 : Int) (x20 : Bool), mini_Value.j0 j x0 x1 x2 x9 x10 x20 = some ((m : Int), e', e2) → m % 2 = 1 := by
    intro j x0 x1 x2 x9 x10 x20 hj
    cases j with
    | zero => cases hj
    | succ j =>
      simp only [mini_Value.j0] at hj
      split at hj
      · simp only [Option.some.injEq, Prod.mk.injEq] at hj
        omega
      · split at hj
        · simp only [Option.some.injEq, Prod.mk.injEq] at hj
          omega
        · split at hj
          · split at hj
            · obtain ⟨t, h1, h2⟩ := Option.bind_eq_some_iff.1 hj
              split at h2
              · simp only [Option.some.injEq, Prod.mk.injEq] at h2
                exact tz_m_odd h1 h2.1 h0
              · cases h2
            · cases hj
          · obtain ⟨t, h1, h2⟩ := Option.bind_eq_some_iff.1 hj
            split at h2
            · simp only [Option.some.injEq, Prod.mk.injEq] at h2
              exact tz_m_odd h1 h2.1 h0
            · cases h2
  unfold mini_Value.f at h
  obtain ⟨t, h1, h2⟩ := Option.bind_eq_some_iff.1 h
  split at h2
  · obtain ⟨u, h3, h4⟩ := Option.bind_eq_some_iff.1 h2
    exact hj _ _ _ _ _ _ _ h4
  · exact hj _ _ _ _ _ _ _ h2
/-- An odd number is no greater than what its power of two is a multiple of. -/
theorem odd_le {m A s j : Nat} (ho : m % 2 = 1) (h : m * 2 ^ s = A * 2 ^ j) : m ≤ A ∧ j ≤ s := by
  rcases Nat.lt_or_ge s j with hl | hl
  · exfalso
    obtain ⟨d, rfl⟩ : ∃ d, j = s + (d + 1) := ⟨j - s - 1, by omega⟩
    rw [Nat.pow_add, ← Nat.mul_assoc, Nat.mul_right_comm] at h
    have := Nat.eq_of_mul_eq_mul_right (Nat.two_pow_pos s) h
    rw [this, Nat.pow_succ, ← Nat.mul_assoc] at ho
    omega
  · obtain ⟨d, rfl⟩ : ∃ d, s = j + d := ⟨s - j, by omega⟩
    rw [Nat.pow_add, Nat.mul_comm (2 ^ j), ← Nat.mul_assoc] at h
    have := Nat.eq_of_mul_eq_mul_right (Nat.two_pow_pos j) h
    have hp := Nat.le_mul_of_pos_right m (Nat.two_pow_pos d)
    exact ⟨by omega, by omega⟩
theorem odd_uniq {m m' s s' : Nat} (ho : m % 2 = 1) (ho' : m' % 2 = 1) (h : m * 2 ^ s = m' * 2 ^ s') : m = m' ∧ s = s' := by
  obtain ⟨a1, a2⟩ := odd_le ho h
  obtain ⟨b1, b2⟩ := odd_le ho' h.symm
  omega

theorem key64 {m : Nat} {e : Int} (ho : m % 2 = 1) (hm : m < 2 ^ 53) (h0 : -1022 ≤ e) (h1 : e ≤ 970) : ∃ k : Nat, 0 < k ∧ k ≤ 9218868437227405311 ∧ numF 2 64 52 1023 0 (k : Int) = some ((m : Int), e) := by
  obtain ⟨L, hL1, hL2, hL3⟩ : ∃ L, 2 ^ L ≤ m ∧ m < 2 ^ (L + 1) ∧ L ≤ 52 := by
    refine ⟨Nat.log2 m, Nat.log2_self_le (by omega), Nat.lt_log2_self, ?_⟩
    have := (Nat.log2_lt (by omega)).2 hm
    omega
  obtain ⟨f, hf⟩ : ∃ f : Nat, (f : Int) = e + L + 1023 := ⟨(e + L + 1023).toNat, by omega⟩
  have hm2 : 2 ^ 52 ≤ m * 2 ^ (52 - L) ∧ m * 2 ^ (52 - L) < 2 ^ 53 := by
    have e1 : (2 : Nat) ^ 52 = 2 ^ L * 2 ^ (52 - L) := by rw [← Nat.pow_add]; congr 1; omega
    have e2 : (2 : Nat) ^ 53 = 2 ^ (L + 1) * 2 ^ (52 - L) := by rw [← Nat.pow_add]; congr 1; omega
    exact ⟨by rw [e1]; exact Nat.mul_le_mul_right _ hL1, by rw [e2]; exact Nat.mul_lt_mul_of_pos_right hL2 (Nat.two_pow_pos _)⟩
  obtain ⟨r, hr⟩ : ∃ r, m * 2 ^ (52 - L) = 2 ^ 52 + r := ⟨m * 2 ^ (52 - L) - 2 ^ 52, by omega⟩
  have hr2 : r < 2 ^ 52 := by rw [hr] at hm2; omega
  have hf1 : 1 ≤ f ∧ f ≤ 2045 := by omega
  have kd : (f * 2 ^ 52 + r) / 2 ^ 52 = f := by omega
  have km : (f * 2 ^ 52 + r) % 2 ^ 52 = r := by omega
  refine ⟨f * 2 ^ 52 + r, by omega, by omega, ?_⟩
  obtain ⟨s, m', v1, v2, v3, v4, v5⟩ := mini_Value_spec (man := 52) (bias := 1023) (key := f * 2 ^ 52 + r) (by decide) (by decide) (by omega) (by omega) (by rw [kd]; omega)
  have ho' := mini_value_m v1 v3
  unfold Cal.mv at v2
  rw [kd, km, if_neg (by omega), ← hr, Nat.mul_assoc, ← Nat.pow_add] at v2
  obtain ⟨rfl, rfl⟩ := odd_uniq ho' ho v2
  unfold numF
  rw [if_neg (by decide), if_pos rfl]
  have e2 : wrap64 ((52 : Int) + 0) = ((52 : Nat) : Int) := by rw [w64 (by decide) (by decide)]; rfl
  rw [e2]
  have v1' : mini_Value.f 9 ((52 : Nat) : Int) 1023 ((f * 2 ^ 52 + r : Nat) : Int) = some ((m' : Int), 1 - 1023 - ((52 : Nat) : Int) + ((52 - L + (f - 1) : Nat) : Int), 0) := v1
  rw [v1', Option.bind_some]
  simp only [Option.some.injEq, Prod.mk.injEq, true_and]
  omega

def Small64 (id : Int) (k : Nat) : Prop := ∃ (m : Nat) (e : Int), numF (ft id.toNat 0) (ft id.toNat 1) (ft id.toNat 2) (ft id.toNat 3) 0 (k : Int) = some ((m : Int), e) ∧ m % 2 = 1 ∧ m < 2 ^ 53 ∧ -1022 ≤ e ∧ e ≤ 970
theorem pow_le_exp {a b : Nat} (h : 2 ^ a ≤ 2 ^ b) : a ≤ b := (Nat.pow_le_pow_iff_right (by decide)).1 h
theorem small_mini {man bias top : Nat} {q2 : Int} (hm : man ≤ 23) (hb : bias ≤ 127) (ht : top < 2 ^ 31) (hq : (2 * top + 1) / 2 ^ (man + 1) ≤ 254) {k : Nat} (h0 : 0 < k) (hk : k ≤ top) :
    ∃ (m : Nat) (e : Int), numF 2 q2 (man : Int) (bias : Int) 0 (k : Int) = some ((m : Int), e) ∧ m % 2 = 1 ∧ m < 2 ^ 53 ∧ -1022 ≤ e ∧ e ≤ 970 := by
  have hq2 : k / 2 ^ man ≤ 254 := by
    have h1 : k / 2 ^ man = 2 * k / 2 ^ (man + 1) := by rw [Nat.pow_succ, Nat.mul_comm (2 ^ man) 2, Nat.mul_div_mul_left _ _ (by decide)]
    rw [h1]
    exact Nat.le_trans (Nat.div_le_div_right (by omega)) hq
  obtain ⟨s, m, v1, v2, v3, v4, v5⟩ := mini_Value_spec (man := man) (bias := bias) (key := k) (by omega) (by omega) h0 (by omega) (by omega)
  have ho := mini_value_m v1 v3
  have hA : ∃ A j, Cal.mv man k = A * 2 ^ j ∧ A < 2 ^ (man + 1) ∧ j ≤ 254 := by
    have hr : k % 2 ^ man < 2 ^ man := Nat.mod_lt _ (Nat.two_pow_pos _)
    unfold Cal.mv
    split
    · exact ⟨k % 2 ^ man, 0, by simp, by rw [Nat.pow_succ]; omega, by decide⟩
    · exact ⟨_, _, rfl, by rw [Nat.pow_succ]; omega, by omega⟩
  obtain ⟨A, j, hAe, hA1, hA2⟩ := hA
  rw [hAe] at v2
  obtain ⟨g1, g2⟩ := odd_le ho v2
  have hpm : (2 : Nat) ^ (man + 1) ≤ 2 ^ 24 := Nat.pow_le_pow_right (by decide) (by omega)
  have hs : s ≤ man + 1 + j := by
    refine pow_le_exp ?_
    have h3 : 2 ^ s ≤ m * 2 ^ s := Nat.le_mul_of_pos_left _ v3
    rw [v2] at h3
    rw [Nat.pow_add]
    exact Nat.le_trans h3 (Nat.mul_le_mul_right _ (Nat.le_of_lt hA1))
  refine ⟨m, 1 - (bias : Int) - (man : Int) + (s : Int), ?_, ho, by omega, by omega, by omega⟩
  have e2 : wrap64 ((man : Int) + 0) = (man : Int) := by rw [w64 (by omega) (by omega)]; omega
  unfold numF
  rw [if_neg (by decide), if_pos rfl, e2, v1]
  rfl
theorem small_posit {n : Nat} (n2 : 2 ≤ n) (hn : n ≤ 31) {k : Nat} (h0 : 0 < k) (hk : k < 2 ^ n) :
    ∃ (m : Nat) (e : Int), numF 1 ((n : Int) + 1) 0 0 0 (k : Int) = some ((m : Int), e) ∧ m % 2 = 1 ∧ m < 2 ^ 53 ∧ -1022 ≤ e ∧ e ≤ 970 := by
  obtain ⟨r, left, rest, hps⟩ := Cal.PS.exists n k n2 h0 hk
  obtain ⟨s, m, v1, v2, v3, v4, v5⟩ := posit_value_spec (n := n) (by omega) h0 hk hps
  have ho := posit_value_m v1 v3
  have hl := hps.left_le
  have hr2 : r + 1 ≤ 2 * n := by
    by_cases hr : r < n
    · omega
    · exact (hps.high (by omega)).1
  have hx := Cal.exp_lt left rest hps.rlt
  have hA : Cal.pv r left rest = (2 ^ (left - 2) + rest % 2 ^ (left - 2)) * 2 ^ (rest / 2 ^ (left - 2) * 2 ^ (2 - left) + (62 - (left - 2)) + 4 * r) := by
    unfold Cal.pv Cal.G
    rw [show (16 : Nat) = 2 ^ 4 from rfl, ← Nat.pow_mul, Nat.pow_add, Nat.pow_add]
    simp only [Nat.mul_assoc]
  rw [hA] at v2
  obtain ⟨g1, g2⟩ := odd_le ho v2
  have hA1 : 2 ^ (left - 2) + rest % 2 ^ (left - 2) < 2 ^ 30 := by
    have h3 := Nat.mod_lt rest (Nat.two_pow_pos (left - 2))
    have h4 : (2 : Nat) ^ (left - 2 + 1) ≤ 2 ^ 30 := Nat.pow_le_pow_right (by decide) (by omega)
    rw [Nat.pow_succ] at h4
    omega
  have hs : s ≤ 30 + (rest / 2 ^ (left - 2) * 2 ^ (2 - left) + (62 - (left - 2)) + 4 * r) := by
    refine pow_le_exp ?_
    have h3 : 2 ^ s ≤ m * 2 ^ s := Nat.le_mul_of_pos_left _ v3
    rw [v2] at h3
    rw [Nat.pow_add]
    exact Nat.le_trans h3 (Nat.mul_le_mul_right _ (Nat.le_of_lt hA1))
  refine ⟨m, (s : Int) - 4 * (n : Int) - 62, ?_, ho, by omega, by omega, by omega⟩
  have e1 : wrap64 ((n : Int) + 1 + 0) = (n : Int) + 1 := by rw [w64 (by omega) (by omega)]; omega
  unfold numF
  rw [if_pos rfl, e1, v1]
theorem small_all {id : Int} (h1 : 1 ≤ id) (h2 : id ≤ 13) (h4 : id ≠ 4) {k : Nat} (hk : k ≤ topK id) (h0 : 0 < k ∨ id = 11) : Small64 id k := by
  obtain rfl | rfl | rfl | rfl | rfl | rfl | rfl | rfl | rfl | rfl | rfl | rfl | rfl : id = 1 ∨ id = 2 ∨ id = 3 ∨ id = 4 ∨ id = 5 ∨ id = 6 ∨ id = 7 ∨ id = 8 ∨ id = 9 ∨ id = 10 ∨ id = 11 ∨ id = 12 ∨ id = 13 := by omega
  · exact small_posit (n := 7) (by decide) (by decide) (h0.resolve_right (by decide)) (Nat.lt_of_le_of_lt hk (by decide))
  · exact small_posit (n := 15) (by decide) (by decide) (h0.resolve_right (by decide)) (Nat.lt_of_le_of_lt hk (by decide))
  · exact small_posit (n := 31) (by decide) (by decide) (h0.resolve_right (by decide)) (Nat.lt_of_le_of_lt hk (by decide))
  · exact absurd rfl h4
  · exact small_mini (q2 := 8) (man := 3) (bias := 7) (top := 126) (by decide) (by decide) (by decide) (by decide) (h0.resolve_right (by decide)) hk
  · exact small_mini (q2 := 8) (man := 2) (bias := 15) (top := 123) (by decide) (by decide) (by decide) (by decide) (h0.resolve_right (by decide)) hk
  · exact small_mini (q2 := 6) (man := 2) (bias := 3) (top := 31) (by decide) (by decide) (by decide) (by decide) (h0.resolve_right (by decide)) hk
  · exact small_mini (q2 := 6) (man := 3) (bias := 1) (top := 31) (by decide) (by decide) (by decide) (by decide) (h0.resolve_right (by decide)) hk
  · exact small_mini (q2 := 4) (man := 1) (bias := 1) (top := 7) (by decide) (by decide) (by decide) (by decide) (h0.resolve_right (by decide)) hk
  · have hk0 := h0.resolve_right (by decide)
    have hk8 : k ≤ 128 := hk
    obtain ⟨t, m, v1, v2, v3, v4⟩ := value_odd_spec (x := k) (e := -6) hk0 (by omega) (by omega)
    have ho := value_odd_m v1 v4
    have hm : m ≤ k := by
      have := Nat.le_mul_of_pos_right m (Nat.two_pow_pos t)
      omega
    refine ⟨m, -6 + (t : Int), ?_, ho, by omega, by omega, by omega⟩
    show numF 3 8 6 0 0 (k : Int) = _
    have e2 : wrap64 (wrap64 (-6) - 0) = -6 := by
      rw [w64 (x := -6) (by decide) (by decide), w64 (by decide) (by decide)]; rfl
    unfold numF
    rw [if_neg (by decide), if_neg (by decide), if_pos rfl, e2, v1]
  · have hk8 : k ≤ 254 := hk
    refine ⟨1, (k : Int) - 127, ?_, by decide, by decide, by omega, by omega⟩
    show numF 4 8 0 127 0 (k : Int) = _
    have e2 : wrap64 (wrap64 (wrap64 (k : Int) - 127)) = (k : Int) - 127 := by
      rw [w64 (x := (k : Int)) (by omega) (by omega), w64 (x := (k : Int) - 127) (by omega) (by omega), w64 (by omega) (by omega)]
    unfold numF
    rw [if_neg (by decide), if_neg (by decide), if_neg (by decide), if_pos rfl, if_pos rfl, e2]
    rfl
  · exact small_mini (q2 := 16) (man := 10) (bias := 15) (top := 31743) (by decide) (by decide) (by decide) (by decide) (h0.resolve_right (by decide)) hk
  · exact small_mini (q2 := 32) (man := 23) (bias := 127) (top := 2139095039) (by decide) (by decide) (by decide) (by decide) (h0.resolve_right (by decide)) hk

theorem pv_shift {n key r left rest : Nat} (h : Cal.PS n key r left rest) : ∀ d, n + d ≤ 64 → ∃ l' t', Cal.PS (n + d) (key * 2 ^ d) (r + d) l' t' ∧ Cal.pv (r + d) l' t' = 2 ^ (4 * d) * Cal.pv r left rest
  | 0, _ => ⟨left, rest, by simpa using h, by simp⟩
  | d + 1, hd => by
    obtain ⟨l', t', h1, h2⟩ := pv_shift h d (by omega)
    obtain ⟨l2, t2, h3, h4⟩ := Cal.pv_twice (by omega) h1
    refine ⟨l2, t2, ?_, ?_⟩
    · have e : key * 2 ^ (d + 1) = 2 * (key * 2 ^ d) := by rw [Nat.pow_succ, ← Nat.mul_assoc, Nat.mul_comm]
      rw [e]
      exact h3
    · have e : (2 : Nat) ^ (4 * (d + 1)) = 16 * 2 ^ (4 * d) := by rw [Nat.mul_add, Nat.pow_add, Nat.mul_comm]
      show Cal.pv (r + d + 1) l2 t2 = _
      rw [h4, h2, e, Nat.mul_assoc]
theorem posit_wide {n n' d : Nat} (n2 : 2 ≤ n) (hd : n' = n + d) (hn : n' ≤ 63) {k : Nat} (h0 : 0 < k) (hk : k < 2 ^ n) {m : Nat} {e : Int} (hm : numF 1 ((n : Int) + 1) 0 0 0 (k : Int) = some ((m : Int), e)) : k * 2 ^ d < 2 ^ n' ∧ numF 1 ((n' : Int) + 1) 0 0 0 ((k * 2 ^ d : Nat) : Int) = some ((m : Int), e) := by
  subst hd
  have hk' : k * 2 ^ d < 2 ^ (n + d) := by rw [Nat.pow_add]; exact Nat.mul_lt_mul_of_pos_right hk (Nat.two_pow_pos d)
  refine ⟨hk', ?_⟩
  obtain ⟨r, left, rest, hps⟩ := Cal.PS.exists n k n2 h0 hk
  obtain ⟨s, m1, v1, v2, v3, v4, v5⟩ := posit_value_spec (n := n) (by omega) h0 hk hps
  have ho := posit_value_m v1 v3
  obtain ⟨l', t', hps', hpv⟩ := pv_shift hps d (by omega)
  obtain ⟨s', m', u1, u2, u3, u4, u5⟩ := posit_value_spec (n := n + d) (by omega) (Nat.mul_pos h0 (Nat.two_pow_pos d)) hk' hps'
  have ho' := posit_value_m u1 u3
  have e1 := Aside0.mk (show wrap64 ((n : Int) + 1 + 0) = (n : Int) + 1 from by rw [w64 (by omega) (by omega)]; omega)
  have e3 := Aside0.mk (show wrap64 (((n + d : Nat) : Int) + 1 + 0) = ((n + d : Nat) : Int) + 1 from by rw [w64 (by omega) (by omega)]; omega)
  unfold numF at hm ⊢
  rw [if_pos rfl, e1.out, v1] at hm
  simp only [Option.some.injEq, Prod.mk.injEq] at hm
  obtain ⟨rfl, rfl⟩ : m1 = m ∧ (s : Int) - 4 * (n : Int) - 62 = e := ⟨Int.ofNat.inj hm.1, hm.2⟩
  rw [hpv, ← v2, Nat.mul_comm (2 ^ (4 * d)), Nat.mul_assoc, ← Nat.pow_add] at u2
  obtain ⟨rfl, rfl⟩ := odd_uniq ho' ho u2
  rw [if_pos rfl, e3.out, u1]
  simp only [Option.some.injEq, Prod.mk.injEq, true_and]
  omega
end Go.Proofs.YtnbkjlebphmpnaaDoor.Pr
