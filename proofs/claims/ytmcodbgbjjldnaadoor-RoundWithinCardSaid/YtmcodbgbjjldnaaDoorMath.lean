/- Plain mathematics, without any program: the ladders of posits and of small floats rise. -/
namespace Cal

theorem pow_pos2 (n : Nat) : 0 < 2 ^ n := Nat.pow_pos (by decide)
theorem pow_mono {a b : Nat} (h : a ≤ b) : 2 ^ a ≤ 2 ^ b := Nat.pow_le_pow_right (by decide) h

/-- The number (1 + fraction) times 2 to the exponent, times 2 to the power of 62. -/
def G (left rest : Nat) : Nat := (2 ^ (left - 2) + rest % 2 ^ (left - 2)) * 2 ^ (rest / 2 ^ (left - 2) * 2 ^ (2 - left)) * 2 ^ (62 - (left - 2))

theorem exp_lt (left rest : Nat) (h : rest < 2 ^ left) : rest / 2 ^ (left - 2) * 2 ^ (2 - left) < 4 := by
  by_cases h2 : 2 ≤ left
  · obtain ⟨b, rfl⟩ : ∃ b, left = b + 2 := ⟨left - 2, by omega⟩
    have e : b + 2 - 2 = b := by omega
    have e2 : 2 - (b + 2) = 0 := by omega
    rw [e, e2, Nat.pow_zero, Nat.mul_one]
    rw [Nat.pow_add] at h
    exact Nat.div_lt_of_lt_mul (by omega)
  · have : left = 0 ∨ left = 1 := by omega
    rcases this with rfl | rfl
    · simp at h; subst h; decide
    · have : rest = 0 ∨ rest = 1 := by omega
      rcases this with rfl | rfl <;> decide

theorem G_lo (left rest : Nat) (hl : left ≤ 64) : 2 ^ 62 ≤ G left rest := by
  unfold G
  have h1 : 2 ^ (left - 2) ≤ 2 ^ (left - 2) + rest % 2 ^ (left - 2) := by omega
  have h2 : 1 ≤ 2 ^ (rest / 2 ^ (left - 2) * 2 ^ (2 - left)) := pow_pos2 _
  have e : 2 ^ 62 = 2 ^ (left - 2) * 1 * 2 ^ (62 - (left - 2)) := by rw [Nat.mul_one, ← Nat.pow_add]; congr 1; omega
  rw [e]
  exact Nat.mul_le_mul_right _ (Nat.mul_le_mul h1 h2)

theorem G_hi (left rest : Nat) (hl : left ≤ 64) (h : rest < 2 ^ left) : G left rest < 2 ^ 66 := by
  unfold G
  have h1 : 2 ^ (left - 2) + rest % 2 ^ (left - 2) < 2 ^ (left - 2) * 2 := by
    have := Nat.mod_lt rest (pow_pos2 (left - 2)); omega
  have h2 : 2 ^ (rest / 2 ^ (left - 2) * 2 ^ (2 - left)) ≤ 2 ^ 3 := pow_mono (by have := exp_lt left rest h; omega)
  have e : 2 ^ 66 = 2 ^ (left - 2) * 2 * 2 ^ 3 * 2 ^ (62 - (left - 2)) := by
    rw [show (2 : Nat) ^ (left - 2) * 2 * 2 ^ 3 * 2 ^ (62 - (left - 2)) = (2 ^ (left - 2) * 2 ^ (62 - (left - 2))) * (2 * 2 ^ 3) by grind, ← Nat.pow_add]
    rw [show left - 2 + (62 - (left - 2)) = 62 by omega]
  rw [e]
  refine Nat.mul_lt_mul_of_lt_of_le ?_ (Nat.le_refl _) (pow_pos2 _)
  exact Nat.mul_lt_mul_of_lt_of_le h1 h2 (pow_pos2 _)

theorem G_mono (left a b : Nat) (hl : left ≤ 64) (hab : a < b) (hb : b < 2 ^ left) : G left a < G left b := by
  unfold G
  refine Nat.mul_lt_mul_of_lt_of_le ?_ (Nat.le_refl _) (pow_pos2 _)
  by_cases h2 : 2 ≤ left
  · obtain ⟨k, rfl⟩ : ∃ b, left = b + 2 := ⟨left - 2, by omega⟩
    have e : k + 2 - 2 = k := by omega
    have e2 : 2 - (k + 2) = 0 := by omega
    rw [e, e2, Nat.pow_zero, Nat.mul_one, Nat.mul_one]
    have da := Nat.div_add_mod a (2 ^ k)
    have db := Nat.div_add_mod b (2 ^ k)
    have ma := Nat.mod_lt a (pow_pos2 k)
    have mb := Nat.mod_lt b (pow_pos2 k)
    generalize a / 2 ^ k = x at *
    generalize b / 2 ^ k = y at *
    generalize a % 2 ^ k = u at *
    generalize b % 2 ^ k = v at *
    have hxy : x ≤ y := by
      apply Nat.le_of_not_lt
      intro hlt
      have : 2 ^ k * (y + 1) ≤ 2 ^ k * x := Nat.mul_le_mul_left _ hlt
      rw [Nat.mul_add] at this
      omega
    rcases Nat.lt_or_eq_of_le hxy with hlt | rfl
    · calc (2 ^ k + u) * 2 ^ x < (2 ^ k * 2) * 2 ^ x := Nat.mul_lt_mul_of_lt_of_le (by omega) (Nat.le_refl _) (pow_pos2 _)
        _ = 2 ^ k * 2 ^ (x + 1) := by rw [Nat.pow_succ]; grind
        _ ≤ 2 ^ k * 2 ^ y := Nat.mul_le_mul_left _ (pow_mono hlt)
        _ ≤ (2 ^ k + v) * 2 ^ y := Nat.mul_le_mul_right _ (by omega)
    · exact Nat.mul_lt_mul_of_lt_of_le (by omega) (Nat.le_refl _) (pow_pos2 _)
  · have : left = 0 ∨ left = 1 := by omega
    rcases this with rfl | rfl
    · simp at hb; omega
    · have : a = 0 := by omega
      have : b = 1 := by omega
      subst a b
      decide

theorem G_twice (left rest : Nat) (hl : left ≤ 63) (h : rest < 2 ^ left) : G (left + 1) (2 * rest) = G left rest := by
  unfold G
  by_cases h2 : 2 ≤ left
  · obtain ⟨k, rfl⟩ : ∃ b, left = b + 2 := ⟨left - 2, by omega⟩
    rw [show k + 2 + 1 - 2 = k + 1 by omega, show k + 2 - 2 = k by omega, show 2 - (k + 2 + 1) = 0 by omega, show 2 - (k + 2) = 0 by omega]
    have e1 : 2 * rest / 2 ^ (k + 1) = rest / 2 ^ k := by rw [Nat.pow_succ, Nat.mul_comm (2 ^ k) 2, Nat.mul_div_mul_left _ _ (by decide)]
    have e2 : 2 * rest % 2 ^ (k + 1) = 2 * (rest % 2 ^ k) := by rw [Nat.pow_succ, Nat.mul_comm (2 ^ k) 2, Nat.mul_mod_mul_left]
    rw [e1, e2]
    have e3 : 2 ^ (62 - k) = 2 * 2 ^ (62 - (k + 1)) := by rw [← Nat.pow_succ']; congr 1; omega
    rw [e3, Nat.pow_succ]
    grind
  · have : left = 0 ∨ left = 1 := by omega
    rcases this with rfl | rfl
    · simp at h; subst h; decide
    · have : rest = 0 ∨ rest = 1 := by omega
      rcases this with rfl | rfl <;> decide

/-- 'key' has regime r, and 'left' bits behind it that are 'rest'. (r counts from 0 on: it is the regime and n.) -/
structure PS (n key r left rest : Nat) : Prop where
  n2 : 2 ≤ n
  low : r < n → 1 ≤ r ∧ left = r - 1 ∧ key = 2 ^ left + rest
  high : n ≤ r → r + 1 ≤ 2 * n ∧ left = 2 * n - 2 - r ∧ key + 2 ^ (2 * n - 1 - r) = 2 ^ n + rest
  rlt : rest < 2 ^ left

theorem PS.left_le {n key r left rest : Nat} (h : PS n key r left rest) : left + 2 ≤ n := by
  have n2 := h.n2
  by_cases hr : r < n
  · have := h.low hr; omega
  · have := h.high (by omega); omega

/-- Greater keys: no lesser regime; the same one: a greater rest. -/
theorem PS.mono {n key r left rest key' r' left' rest' : Nat} (h : PS n key r left rest) (h' : PS n key' r' left' rest') (hk : key < key') :
    r < r' ∨ (r = r' ∧ left = left' ∧ rest < rest') := by
  have n2 := h.n2
  by_cases hr : r < n
  · obtain ⟨h1, rfl, rfl⟩ := h.low hr
    have := h.rlt
    by_cases hr' : r' < n
    · obtain ⟨h1', rfl, rfl⟩ := h'.low hr'
      have := h'.rlt
      rcases Nat.lt_trichotomy r r' with hlt | rfl | hgt
      · exact .inl hlt
      · exact .inr ⟨rfl, rfl, by omega⟩
      · exfalso
        have : 2 ^ (r' - 1 + 1) ≤ 2 ^ (r - 1) := pow_mono (by omega)
        rw [Nat.pow_succ] at this
        omega
    · exact .inl (by omega)
  · obtain ⟨h1, rfl, e⟩ := h.high (by omega)
    have := h.rlt
    by_cases hr' : r' < n
    · exfalso
      obtain ⟨h1', rfl, rfl⟩ := h'.low hr'
      have := h'.rlt
      have a : 2 ^ (r' - 1 + 1) ≤ 2 ^ (n - 1) := pow_mono (by omega)
      rw [Nat.pow_succ] at a
      have b : 2 ^ (2 * n - 1 - r) ≤ 2 ^ (n - 1) := pow_mono (by omega)
      have c : 2 ^ n = 2 ^ (n - 1) * 2 := by rw [← Nat.pow_succ]; congr 1; omega
      omega
    · obtain ⟨h1', rfl, e'⟩ := h'.high (by omega)
      have := h'.rlt
      rcases Nat.lt_trichotomy r r' with hlt | rfl | hgt
      · exact .inl hlt
      · exact .inr ⟨rfl, rfl, by omega⟩
      · exfalso
        have a : 2 ^ (2 * n - 1 - r) ≤ 2 ^ (2 * n - 2 - r') := pow_mono (by omega)
        have b : 2 ^ (2 * n - 1 - r') = 2 ^ (2 * n - 2 - r') * 2 := by rw [← Nat.pow_succ]; congr 1; omega
        omega

/-- A key's number, times 2 to the power of 62 and 16 to the power of n. -/
def pv (r left rest : Nat) : Nat := G left rest * 16 ^ r

theorem pv_mono {n key r left rest key' r' left' rest' : Nat} (hn : n ≤ 64) (h : PS n key r left rest) (h' : PS n key' r' left' rest') (hk : key < key') : pv r left rest < pv r' left' rest' := by
  have hl := h.left_le
  have hl' := h'.left_le
  unfold pv
  rcases h.mono h' hk with hlt | ⟨rfl, rfl, hr⟩
  · have a := G_hi left rest (by omega) h.rlt
    have b := G_lo left' rest' (by omega)
    calc G left rest * 16 ^ r < 2 ^ 66 * 16 ^ r := Nat.mul_lt_mul_of_lt_of_le a (Nat.le_refl _) (Nat.pow_pos (by decide))
      _ = 2 ^ 62 * 16 ^ (r + 1) := by rw [Nat.pow_succ]; omega
      _ ≤ 2 ^ 62 * 16 ^ r' := Nat.mul_le_mul_left _ (Nat.pow_le_pow_right (by decide) hlt)
      _ ≤ G left' rest' * 16 ^ r' := Nat.mul_le_mul_right _ b
  · exact Nat.mul_lt_mul_of_lt_of_le (G_mono left rest rest' (by omega) hr h'.rlt) (Nat.le_refl _) (Nat.pow_pos (by decide))

/-- Every key has such parts. -/
theorem PS.exists (n key : Nat) (n2 : 2 ≤ n) (h0 : 0 < key) (h1 : key < 2 ^ n) : ∃ r left rest, PS n key r left rest := by
  have e : 2 ^ n = 2 ^ (n - 1) * 2 := by rw [← Nat.pow_succ]; congr 1; omega
  by_cases hk : key < 2 ^ (n - 1)
  · have a := Nat.log2_self_le (n := key) (by omega)
    have b := Nat.lt_log2_self (n := key)
    have c : key.log2 < n - 1 := (Nat.log2_lt (by omega)).2 hk
    refine ⟨key.log2 + 1, key.log2, key - 2 ^ key.log2, n2, fun _ => ⟨by omega, by omega, by omega⟩, fun h => by omega, ?_⟩
    rw [Nat.pow_succ] at b
    omega
  · by_cases hc : 2 ^ n - 1 - key = 0
    · refine ⟨2 * n - 1, 0, 0, n2, fun h => by omega, fun _ => ⟨by omega, by omega, ?_⟩, by decide⟩
      rw [show 2 * n - 1 - (2 * n - 1) = 0 by omega]
      omega
    · generalize hC : 2 ^ n - 1 - key = c at hc
      have a := Nat.log2_self_le (n := c) hc
      have b := Nat.lt_log2_self (n := c)
      have d : c.log2 < n - 1 := (Nat.log2_lt hc).2 (by omega)
      rw [Nat.pow_succ] at b
      refine ⟨2 * n - 2 - c.log2, c.log2, 2 ^ (c.log2 + 1) - 1 - c, n2, fun h => by omega, fun _ => ⟨by omega, by omega, ?_⟩, ?_⟩
      · rw [show 2 * n - 1 - (2 * n - 2 - c.log2) = c.log2 + 1 by omega, Nat.pow_succ]
        omega
      · rw [Nat.pow_succ]
        omega

/-- One bit more: the same number. -/
theorem PS.twice {n key r left rest : Nat} (h : PS n key r left rest) : ∃ left' rest', PS (n + 1) (2 * key) (r + 1) left' rest' ∧ (left' = left + 1 ∧ rest' = 2 * rest ∨ left = 0 ∧ left' = 0 ∧ rest' = 0 ∧ rest = 0) := by
  have n2 := h.n2
  have hr := h.rlt
  by_cases hrn : r < n
  · obtain ⟨h1, rfl, rfl⟩ := h.low hrn
    refine ⟨r - 1 + 1, 2 * rest, ⟨by omega, fun _ => ⟨by omega, by omega, by rw [Nat.pow_succ]; omega⟩, fun h => by omega, by rw [Nat.pow_succ]; omega⟩, .inl ⟨rfl, rfl⟩⟩
  · obtain ⟨h1, rfl, e⟩ := h.high (by omega)
    by_cases hz : r + 1 = 2 * n
    · have hz2 : 2 * n - 2 - r = 0 := by omega
      rw [hz2] at hr
      refine ⟨0, 0, ⟨by omega, fun h => by omega, fun _ => ⟨by omega, by omega, ?_⟩, by decide⟩, .inr ⟨hz2, rfl, rfl, by omega⟩⟩
      rw [show 2 * (n + 1) - 1 - (r + 1) = 1 by omega]
      rw [show 2 * n - 1 - r = 0 by omega] at e
      rw [Nat.pow_succ]
      omega
    · refine ⟨2 * n - 2 - r + 1, 2 * rest, ⟨by omega, fun h => by omega, fun _ => ⟨by omega, by omega, ?_⟩, by rw [Nat.pow_succ]; omega⟩, .inl ⟨rfl, rfl⟩⟩
      have x : 2 ^ (2 * (n + 1) - 1 - (r + 1)) = 2 ^ (2 * n - 1 - r) * 2 := by rw [← Nat.pow_succ]; congr 1; omega
      rw [x, Nat.pow_succ]
      omega

theorem pv_twice {n key r left rest : Nat} (hn : n ≤ 64) (h : PS n key r left rest) : ∃ left' rest', PS (n + 1) (2 * key) (r + 1) left' rest' ∧ pv (r + 1) left' rest' = 16 * pv r left rest := by
  obtain ⟨l', t', h', hh⟩ := h.twice
  have hl := h.left_le
  refine ⟨l', t', h', ?_⟩
  unfold pv
  rcases hh with ⟨rfl, rfl⟩ | ⟨rfl, rfl, rfl, rfl⟩
  · rw [G_twice left rest (by omega) h.rlt, Nat.pow_succ]
    grind
  · rw [Nat.pow_succ]
    grind

/-- A magnitude's number, as so many of the least one. -/
def mv (man key : Nat) : Nat := if key / 2 ^ man = 0 then key % 2 ^ man else (2 ^ man + key % 2 ^ man) * 2 ^ (key / 2 ^ man - 1)

theorem mv_mono (man a b : Nat) (h : a < b) : mv man a < mv man b := by
  unfold mv
  have da := Nat.div_add_mod a (2 ^ man)
  have db := Nat.div_add_mod b (2 ^ man)
  have ma := Nat.mod_lt a (pow_pos2 man)
  have mb := Nat.mod_lt b (pow_pos2 man)
  generalize a / 2 ^ man = x at *
  generalize b / 2 ^ man = y at *
  generalize a % 2 ^ man = u at *
  generalize b % 2 ^ man = v at *
  have hxy : x ≤ y := by
    apply Nat.le_of_not_lt
    intro hlt
    have : 2 ^ man * (y + 1) ≤ 2 ^ man * x := Nat.mul_le_mul_left _ hlt
    rw [Nat.mul_add] at this
    omega
  rcases Nat.lt_or_eq_of_le hxy with hlt | rfl
  · rw [if_neg (show ¬ y = 0 by omega)]
    have low : 2 ^ man * 2 ^ (y - 1) ≤ (2 ^ man + v) * 2 ^ (y - 1) := Nat.mul_le_mul_right _ (by omega)
    by_cases hx : x = 0
    · rw [if_pos hx]
      have : 2 ^ man * 1 ≤ 2 ^ man * 2 ^ (y - 1) := Nat.mul_le_mul_left _ (pow_pos2 _)
      omega
    · rw [if_neg hx]
      calc (2 ^ man + u) * 2 ^ (x - 1) < (2 ^ man * 2) * 2 ^ (x - 1) := Nat.mul_lt_mul_of_lt_of_le (by omega) (Nat.le_refl _) (pow_pos2 _)
        _ = 2 ^ man * 2 ^ (x - 1 + 1) := by rw [Nat.pow_succ]; grind
        _ ≤ 2 ^ man * 2 ^ (y - 1) := Nat.mul_le_mul_left _ (pow_mono (by omega))
        _ ≤ _ := low
  · by_cases hx : x = 0
    · rw [if_pos hx, if_pos hx]
      omega
    · rw [if_neg hx, if_neg hx]
      exact Nat.mul_lt_mul_of_lt_of_le (by omega) (Nat.le_refl _) (pow_pos2 _)

theorem mv_twice (man key : Nat) : mv (man + 1) (2 * key) = 2 * mv man key := by
  unfold mv
  have e1 : 2 * key / 2 ^ (man + 1) = key / 2 ^ man := by rw [Nat.pow_succ, Nat.mul_comm (2 ^ man) 2, Nat.mul_div_mul_left _ _ (by decide)]
  have e2 : 2 * key % 2 ^ (man + 1) = 2 * (key % 2 ^ man) := by rw [Nat.pow_succ, Nat.mul_comm (2 ^ man) 2, Nat.mul_mod_mul_left]
  rw [e1, e2]
  split
  · rfl
  · rw [Nat.pow_succ]; grind

end Cal
