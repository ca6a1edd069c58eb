/- The plain laws of the ladders: what value.At and value.Between tell, as numbers. Under way. -/
import Derived.Test.YtmcodbgbjjldnaaDoorCmp
import Derived.Test.YtmcodbgbjjldnaaDoorMath
import Derived.Test.YtmcodbgbjjldnaaDoorPrx13
set_option linter.unusedVariables false
set_option linter.unusedSimpArgs false
namespace Go.Proofs.YtmcodbgbjjldnaaDoor.Pr
open Go.RowKit Go.Proofs.YtmcodbgbjjldnaaDoorW.PrintWords Go.Proofs.YtmcodbgbjjldnaaDoorW.PrintLast Go.Proofs.YtmcodbgbjjldnaaDoorW.PrintMore

/-- A number without its twos: m · 2^t again. -/
theorem tz_odd {x : Nat} (h0 : 0 < x) (h1 : x < 18446744073709551616) : ∃ t m : Nat, bits_TrailingZeros64.f (x : Int) = some (t : Int) ∧ t < 64 ∧ x = m * 2 ^ t ∧ 0 < m ∧ shr .u64 (x : Int) (t : Int) = (m : Int) := by
  obtain ⟨m, hm, ht⟩ := Go.Lib.ctzFrom_spec 64 x h0 (by omega)
  have hp := Nat.two_pow_pos (Go.Lib.ctzFrom 64 x)
  refine ⟨Go.Lib.ctzFrom 64 x, 2 * m + 1, ?_, ht, by rw [Nat.mul_comm]; exact hm, by omega, ?_⟩
  · unfold bits_TrailingZeros64.f
    rw [if_pos ⟨Int.natCast_nonneg _, by omega⟩, Int.toNat_natCast]
    simp only [Go.Lib.ctz]
    rw [if_neg (by omega)]
  · generalize Go.Lib.ctzFrom 64 x = t at *
    unfold shr
    have hb : IntKind.u64.bits = 64 := rfl
    rw [hb, Int.toNat_natCast, Nat.min_eq_left (by omega), show (2 : Int) ^ t = ((2 ^ t : Nat) : Int) by rw [Int.natCast_pow]; rfl, ← Int.natCast_ediv]
    congr 1
    rw [hm, Nat.mul_div_cancel_left _ hp]
theorem posit_odd_spec {x : Nat} (h0 : 0 < x) (h1 : x < 18446744073709551616) {e : Int} (he : -100000 ≤ e ∧ e ≤ 100000) : ∃ t m : Nat, posit_odd.f (x : Int) e = some ((m : Int), e + t) ∧ t < 64 ∧ x = m * 2 ^ t ∧ 0 < m := by
  obtain ⟨t, m, a1, a2, a3, a4, a5⟩ := tz_odd h0 h1
  refine ⟨t, m, ?_, a2, a3, a4⟩
  unfold posit_odd.f
  rw [a1, Option.bind_some, if_pos (Int.natCast_nonneg _), a5, w64 (by omega) (by omega)]
theorem value_odd_spec {x : Nat} (h0 : 0 < x) (h1 : x < 18446744073709551616) {e : Int} (he : -100000 ≤ e ∧ e ≤ 100000) : ∃ t m : Nat, value_odd.f (x : Int) e = some ((m : Int), e + t) ∧ t < 64 ∧ x = m * 2 ^ t ∧ 0 < m := by
  obtain ⟨t, m, a1, a2, a3, a4, a5⟩ := tz_odd h0 h1
  refine ⟨t, m, ?_, a2, a3, a4⟩
  unfold value_odd.f
  rw [if_neg (by omega), a1, Option.bind_some, if_pos (Int.natCast_nonneg _), a5, w64 (by omega) (by omega)]

/-- round's size of a number: a row of one word. -/
theorem round_size_spec {m : Nat} (h0 : 0 < m) (h1 : m < 18446744073709551616) {e : Int} (he : -5000 ≤ e ∧ e ≤ 5000) : ∃ l, round_size.f (m : Int) e = some (false, l, e, 0) ∧ Ws l ∧ Tr l ∧ l.length ≤ 1 ∧ val l = m := by
  obtain ⟨l, a1, a2, a3, a4, a5⟩ := nat_Of_spec (x := (m : Int)) (by omega) (by omega)
  refine ⟨l, ?_, a3, a4, a5, a2⟩
  have hi : exact_in.f e = some true := by
    unfold exact_in.f
    rw [if_pos (by omega)]
    simp; omega
  unfold round_size.f
  rw [if_neg (by omega)]
  simp only [exact_Of.f, hi, a1, Option.bind_some]
  rfl

theorem cast_pow (n : Nat) : (2 : Int) ^ n = ((2 ^ n : Nat) : Int) := by rw [Int.natCast_pow]; rfl
theorem pow_lt64 {n : Nat} (h : n ≤ 63) : (2 : Nat) ^ n < 18446744073709551616 := by
  have := Nat.pow_le_pow_right (n := 2) (by decide) h
  omega
theorem shr_nat {x n : Nat} (h : n ≤ 64) : shr .u64 (x : Int) (n : Int) = ((x / 2 ^ n : Nat) : Int) := by
  unfold shr
  have hb : IntKind.u64.bits = 64 := rfl
  rw [hb, Int.toNat_natCast, Nat.min_eq_left h, cast_pow, ← Int.natCast_ediv]
theorem shl_one {n : Nat} (h : n ≤ 63) : shl .u64 1 (n : Int) = ((2 ^ n : Nat) : Int) := by
  unfold shl
  have hb : IntKind.u64.bits = 64 := rfl
  rw [hb, Int.toNat_natCast, Nat.min_eq_left (by omega), Int.one_mul, cast_pow, wrapN, Nat.mod_eq_of_lt (pow_lt64 h)]
theorem mask_nat {n : Nat} (h : n ≤ 63) : IntKind.u64.wrap (shl .u64 1 (n : Int) - 1) = ((2 ^ n - 1 : Nat) : Int) := by
  rw [shl_one h]
  have h1 := pow_lt64 h
  have h2 := Nat.two_pow_pos n
  generalize (2 : Nat) ^ n = P at *
  rw [show (P : Int) - 1 = ((P - 1 : Nat) : Int) by omega, wrapN, Nat.mod_eq_of_lt (by omega)]
theorem and_mask {x n : Nat} (hx : x < 18446744073709551616) (h : n ≤ 63) : Go.bits .and .u64 (x : Int) (IntKind.u64.wrap (shl .u64 1 (n : Int) - 1)) = ((x % 2 ^ n : Nat) : Int) := by
  have h1 := pow_lt64 h
  rw [mask_nat h, bits_and_u64_nat _ _ hx (by omega), Nat.and_two_pow_sub_one_eq_mod]
theorem or_top {r n : Nat} (hr : r < 2 ^ n) (h : n ≤ 62) : Go.bits .or .u64 (r : Int) (shl .u64 1 (n : Int)) = ((2 ^ n + r : Nat) : Int) := by
  have h1 := pow_lt64 (n := n) (by omega)
  rw [shl_one (by omega), bits_or_u64_nat _ _ (by omega) h1]
  congr 1
  have h2 := Nat.shiftLeft_add_eq_or_of_lt hr 1
  rw [Nat.shiftLeft_eq, Nat.one_mul] at h2
  rw [Nat.or_comm, ← h2]
theorem mini_Split_spec {man key : Nat} (hm : man ≤ 60) (hk : key < 18446744073709551616) (hf : key / 2 ^ man ≤ 4095) : mini_Split.f (man : Int) (key : Int) = some (((key / 2 ^ man : Nat) : Int), ((key % 2 ^ man : Nat) : Int), 0) := by
  unfold mini_Split.f mini_fits.f
  rw [if_pos (by omega), if_pos (by omega), if_pos (by decide), Option.bind_some, if_pos (by decide), if_pos (by omega), shr_nat (by omega), and_mask hk (by omega), if_neg (by omega)]
theorem mini_Value_spec {man bias key : Nat} (hm : man ≤ 60) (hb : bias ≤ 2000) (h0 : 0 < key) (hk : key < 18446744073709551616) (hf : key / 2 ^ man ≤ 4095) :
    ∃ s m : Nat, mini_Value.f 9 (man : Int) (bias : Int) (key : Int) = some ((m : Int), 1 - (bias : Int) - (man : Int) + (s : Int), 0) ∧ m * 2 ^ s = Cal.mv man key ∧ 0 < m ∧ m < 18446744073709551616 ∧ s ≤ 4200 := by
  have hr : key % 2 ^ man < 2 ^ man := Nat.mod_lt _ (Nat.two_pow_pos _)
  have hp := pow_lt64 (n := man) (by omega)
  have hp2 := pow_lt64 (n := man + 1) (by omega)
  rw [Nat.pow_succ] at hp2
  have hfit : mini_fits.f (man : Int) (bias : Int) = some true := by
    unfold mini_fits.f
    rw [if_pos (by omega), if_pos (by omega), if_pos (by omega)]
    congr 1
    exact decide_eq_true (by omega)
  have hd := Nat.div_add_mod key (2 ^ man)
  by_cases h1 : key / 2 ^ man = 0
  · have hx : key % 2 ^ man = key := by rw [h1] at hd; omega
    obtain ⟨t, m, a1, a2, a3, a4, a5⟩ := tz_odd h0 hk
    refine ⟨t, m, ?_, ?_, a4, ?_, by omega⟩
    · unfold mini_Value.f
      rw [mini_Split_spec hm hk hf]
      simp only [Option.bind_some, if_true, hfit, mini_Value.j0, Bool.not_true, Bool.false_eq_true, if_false, h1, hx]
      rw [if_neg (by omega), if_neg (by omega), a1, Option.bind_some, if_pos (Int.natCast_nonneg _), a5]
      have e1 : mx (wrap64 ((0 : Nat) : Int)) 1 = 1 := by rw [w64 (by decide) (by decide)]; rfl
      rw [e1, w64 (x := 1 - (bias : Int)) (by omega) (by omega), w64 (x := 1 - (bias : Int) - (man : Int)) (by omega) (by omega), w64 (by omega) (by omega)]
    · unfold Cal.mv
      rw [if_pos h1, hx, a3]
    · have := Nat.le_mul_of_pos_right m (Nat.two_pow_pos t)
      omega
  · obtain ⟨t, m, a1, a2, a3, a4, a5⟩ := tz_odd (x := 2 ^ man + key % 2 ^ man) (by omega) (by omega)
    obtain ⟨f, hf1⟩ : ∃ f, key / 2 ^ man = f := ⟨_, rfl⟩
    rw [hf1] at h1 hf
    refine ⟨t + (f - 1), m, ?_, ?_, a4, ?_, by omega⟩
    · unfold mini_Value.f
      rw [mini_Split_spec hm hk (by omega)]
      simp only [Option.bind_some, if_true, hfit, mini_Value.j0, Bool.not_true, Bool.false_eq_true, if_false, hf1]
      rw [if_neg (by omega), if_pos (by omega), if_pos (by omega), or_top hr (by omega), a1, Option.bind_some, if_pos (Int.natCast_nonneg _), a5]
      have e1 : mx (wrap64 (f : Int)) 1 = (f : Int) := by
        rw [w64 (by omega) (by omega)]
        unfold mx
        split <;> omega
      rw [e1]
      clear e1
      rw [w64 (x := (f : Int) - (bias : Int)) (by omega) (by omega), w64 (x := (f : Int) - (bias : Int) - (man : Int)) (by omega) (by omega), w64 (by omega) (by omega)]
      have e2 : (f : Int) - (bias : Int) - (man : Int) + (t : Int) = 1 - (bias : Int) - (man : Int) + ((t + (f - 1) : Nat) : Int) := by omega
      rw [e2]
    · unfold Cal.mv
      rw [if_neg (by rw [hf1]; exact h1), hf1, a3, Nat.pow_add, ← Nat.mul_assoc]
    · have := Nat.le_mul_of_pos_right m (Nat.two_pow_pos t)
      omega

theorem lz64 {x L : Nat} (h1 : 2 ^ L ≤ x) (h2 : x < 2 ^ (L + 1)) (hL : L ≤ 63) : bits_LeadingZeros64.f (x : Int) = some ((63 - L : Nat) : Int) := by
  have h0 := Nat.two_pow_pos L
  have hx : x < 2 ^ 64 := Nat.lt_of_lt_of_le h2 (Nat.pow_le_pow_right (by decide) (by omega))
  obtain ⟨b1, b2, b3⟩ := Go.Lib.bitLenAux_bounds 64 x hx (by omega)
  have e : Go.Lib.bitLen x = L + 1 := by
    show Go.Lib.bitLenAux 64 x = L + 1
    generalize Go.Lib.bitLenAux 64 x = b at *
    rcases Nat.lt_trichotomy b (L + 1) with h | h | h
    · have := Nat.pow_le_pow_right (n := 2) (by decide) (show b ≤ L by omega)
      omega
    · exact h
    · have := Nat.pow_le_pow_right (n := 2) (by decide) (show L + 1 ≤ b - 1 by omega)
      omega
  unfold bits_LeadingZeros64.f
  rw [if_pos ⟨Int.natCast_nonneg _, by omega⟩, Int.toNat_natCast, e]
  congr 1
  omega
theorem lz64_zero : bits_LeadingZeros64.f 0 = some 64 := by decide
theorem sub_mx {a b : Nat} (ha : a ≤ 1000) (hb : b ≤ 1000) : mx (wrap64 ((a : Int) - (b : Int))) 0 = ((a - b : Nat) : Int) := by
  rw [w64 (by omega) (by omega)]
  unfold mx
  split <;> omega
/-- The exponent, the fraction and its bits of a rest. -/
theorem fields_spec {key left rest : Nat} (hk : key < 18446744073709551616) (hl : left ≤ 62) (hr : key % 2 ^ left = rest) :
    Go.bits .and .u64 (key : Int) (IntKind.u64.wrap (shl .u64 1 (left : Int) - 1)) = (rest : Int) ∧
    mx (wrap64 ((left : Int) - 2)) 0 = ((left - 2 : Nat) : Int) ∧ mx (wrap64 (2 - (left : Int))) 0 = ((2 - left : Nat) : Int) ∧
    wrap64 (shl .u64 (shr .u64 (rest : Int) ((left - 2 : Nat) : Int)) ((2 - left : Nat) : Int)) = ((rest / 2 ^ (left - 2) * 2 ^ (2 - left) : Nat) : Int) ∧
    Go.bits .and .u64 (rest : Int) (IntKind.u64.wrap (shl .u64 1 ((left - 2 : Nat) : Int) - 1)) = ((rest % 2 ^ (left - 2) : Nat) : Int) := by
  have hrl : rest < 2 ^ left := by rw [← hr]; exact Nat.mod_lt _ (Nat.two_pow_pos _)
  have hrk : rest < 18446744073709551616 := by
    have := pow_lt64 (n := left) (by omega)
    omega
  refine ⟨?_, sub_mx (b := 2) (by omega) (by omega), sub_mx (a := 2) (by omega) (by omega), ?_, and_mask hrk (by omega)⟩
  · rw [and_mask hk (by omega), hr]
  · have he := Cal.exp_lt left rest hrl
    rw [shr_nat (by omega)]
    unfold shl
    have hb : IntKind.u64.bits = 64 := rfl
    rw [hb, Int.toNat_natCast, Nat.min_eq_left (by omega), cast_pow, ← Int.natCast_mul, wrapN]
    generalize rest / 2 ^ (left - 2) * 2 ^ (2 - left) = E at *
    rw [Nat.mod_eq_of_lt (by omega), w64 (by omega) (by omega)]

theorem left_mx {n run left : Nat} (hn : n ≤ 64) (hr : run ≤ 64) (h : n - run - 1 = left) : mx (wrap64 (wrap64 ((n : Int) - (run : Int)) - 1)) 0 = (left : Int) := by
  rw [w64 (x := (n : Int) - (run : Int)) (by omega) (by omega), w64 (by omega) (by omega)]
  unfold mx
  split <;> omega
theorem high_shl {n key : Nat} (hn : n ≤ 64) (hk : key < 2 ^ n) : shl .u64 (key : Int) (wrap64 (64 - (n : Int))) = ((key * 2 ^ (64 - n) : Nat) : Int) ∧ key * 2 ^ (64 - n) < 18446744073709551616 := by
  have e : 2 ^ n * 2 ^ (64 - n) = 18446744073709551616 := by rw [← Nat.pow_add, show n + (64 - n) = 64 by omega]
  have h1 : key * 2 ^ (64 - n) < 2 ^ n * 2 ^ (64 - n) := Nat.mul_lt_mul_of_pos_right hk (Nat.two_pow_pos _)
  rw [e] at h1
  refine ⟨?_, h1⟩
  rw [w64 (by omega) (by omega)]
  unfold shl
  have hb : IntKind.u64.bits = 64 := rfl
  rw [hb, show (64 - (n : Int)).toNat = 64 - n by omega, Nat.min_eq_left (by omega), cast_pow, ← Int.natCast_mul, wrapN, Nat.mod_eq_of_lt h1]
theorem split_low {n key r left rest : Nat} (k : Nat) (hn : n ≤ 64) (h : Cal.PS n key r left rest) (hr : r < n) (hk : key < 2 ^ n) :
    posit_split.j0 (k + 1) (key : Int) (n : Int) = some ((r : Int) - (n : Int), ((rest / 2 ^ (left - 2) * 2 ^ (2 - left) : Nat) : Int), ((rest % 2 ^ (left - 2) : Nat) : Int), ((left - 2 : Nat) : Int)) := by
  obtain ⟨r1, hl, hkey⟩ := h.low hr
  have hrl := h.rlt
  have hk64 : key < 18446744073709551616 := Nat.lt_of_lt_of_le hk (by have := Nat.pow_le_pow_right (n := 2) (by decide) hn; omega)
  obtain ⟨s1, s2⟩ := high_shl hn hk
  have hmod : key % 2 ^ left = rest := by rw [hkey, Nat.add_mod_left, Nat.mod_eq_of_lt hrl]
  obtain ⟨f1, f2, f3, f4, f5⟩ := fields_spec hk64 (by omega) hmod
  have b1 : 2 ^ (left + (64 - n)) ≤ key * 2 ^ (64 - n) := by
    rw [Nat.pow_add]
    exact Nat.mul_le_mul_right _ (by omega)
  have b2 : key * 2 ^ (64 - n) < 2 ^ (left + (64 - n) + 1) := by
    rw [show left + (64 - n) + 1 = (left + 1) + (64 - n) by omega, Nat.pow_add]
    refine Nat.mul_lt_mul_of_pos_right ?_ (Nat.two_pow_pos _)
    rw [Nat.pow_succ]
    omega
  have hz := lz64 b1 b2 (by omega)
  obtain ⟨run, hrun⟩ : ∃ run, 63 - (left + (64 - n)) = run := ⟨_, rfl⟩
  rw [hrun] at hz
  have e1 : wrap64 (-(run : Int)) = (r : Int) - (n : Int) := by rw [w64 (by omega) (by omega)]; omega
  have e2 := left_mx (n := n) (run := run) (left := left) hn (by clear e1; omega) (by clear e1; omega)
  have h64 : 0 ≤ wrap64 (64 - (n : Int)) := by rw [w64 (by clear e1 e2; omega) (by clear e1 e2; omega)]; clear e1 e2; omega
  have hne : ¬ (run : Int) = 0 := by clear e1 e2 h64; omega
  simp only [posit_split.j0]
  rw [if_pos h64, s1, hz, Option.bind_some, if_neg hne, e1, e2, f1, f2, f3, f4, f5]

theorem xor_ones {x : Nat} (hx : x < 18446744073709551616) : Go.bits .xor .u64 18446744073709551615 (x : Int) = ((18446744073709551615 - x : Nat) : Int) := by
  have h := bits_xor_u64_nat 18446744073709551615 x (by omega) hx
  have e : 18446744073709551615 ^^^ x = 18446744073709551615 - x := by
    have h1 : (BitVec.allOnes 64 ^^^ BitVec.ofNat 64 x).toNat = (~~~ (BitVec.ofNat 64 x)).toNat := by rw [BitVec.not_def]
    rw [BitVec.toNat_xor, BitVec.toNat_not, BitVec.toNat_ofNat, BitVec.toNat_allOnes, Nat.mod_eq_of_lt (by omega)] at h1
    exact h1
  rw [e] at h
  exact h
theorem split_high {n key r left rest : Nat} (k : Nat) (hn : n ≤ 64) (h : Cal.PS n key r left rest) (hr : n ≤ r) (hk : key < 2 ^ n) :
    posit_split.j0 (k + 1) (key : Int) (n : Int) = some ((r : Int) - (n : Int), ((rest / 2 ^ (left - 2) * 2 ^ (2 - left) : Nat) : Int), ((rest % 2 ^ (left - 2) : Nat) : Int), ((left - 2 : Nat) : Int)) := by
  obtain ⟨r2, hl, hkey⟩ := h.high hr
  have n2 := h.n2
  have hrl := h.rlt
  have hk64 : key < 18446744073709551616 := Nat.lt_of_lt_of_le hk (by have := Nat.pow_le_pow_right (n := 2) (by decide) hn; omega)
  obtain ⟨s1, s2⟩ := high_shl hn hk
  obtain ⟨run, hrun⟩ : ∃ run, r + 1 - n = run := ⟨_, rfl⟩
  obtain ⟨c, hc⟩ : ∃ c, 2 * n - 1 - r = c := ⟨_, rfl⟩
  rw [hc] at hkey
  have hnc : n = run + c := by omega
  have hlc : left = c - 1 := by omega
  have hpc := Nat.two_pow_pos c
  have hrc : rest < 2 ^ c := Nat.lt_of_lt_of_le hrl (Nat.pow_le_pow_right (by decide) (by omega))
  have e2n : 2 ^ n = 2 ^ run * 2 ^ c := by rw [hnc, Nat.pow_add]
  have hmod : key % 2 ^ left = rest := by
    obtain ⟨q, hq⟩ : ∃ q, key = q * 2 ^ left + rest := by
      have hc2 : 2 ^ c = 2 ^ (c - left) * 2 ^ left := by rw [← Nat.pow_add]; congr 1; omega
      refine ⟨(2 ^ run - 1) * 2 ^ (c - left), ?_⟩
      have hcn : 2 ^ c ≤ 2 ^ n := Nat.pow_le_pow_right (by decide) (by omega)
      rw [Nat.mul_assoc, ← hc2, Nat.sub_mul, Nat.one_mul, ← e2n]
      omega
    rw [hq, Nat.mul_comm, Nat.mul_add_mod, Nat.mod_eq_of_lt hrl]
  obtain ⟨f1, f2, f3, f4, f5⟩ := fields_spec hk64 (by omega) hmod
  have etot : 2 ^ n * 2 ^ (64 - n) = 18446744073709551616 := by rw [← Nat.pow_add, show n + (64 - n) = 64 by omega]
  have hpd := Nat.two_pow_pos (64 - n)
  -- the number's first bit
  have hhalf : 2 ^ 63 ≤ key * 2 ^ (64 - n) := by
    have h1 : 2 ^ (n - 1) ≤ key := by
      have e1 : 2 ^ n = 2 ^ (n - 1) * 2 := by rw [← Nat.pow_succ]; congr 1; omega
      have h2 : 2 ^ c ≤ 2 ^ (n - 1) := Nat.pow_le_pow_right (by decide) (by omega)
      omega
    have h2 := Nat.mul_le_mul_right (2 ^ (64 - n)) h1
    rw [← Nat.pow_add, show n - 1 + (64 - n) = 63 by omega] at h2
    exact h2
  have hz0 := lz64 hhalf (by omega) (by omega)
  -- what is lacking
  have hlack : 18446744073709551615 - key * 2 ^ (64 - n) = (2 ^ c - rest) * 2 ^ (64 - n) - 1 := by
    have : (2 ^ c - rest) * 2 ^ (64 - n) + key * 2 ^ (64 - n) = 18446744073709551616 := by
      rw [← Nat.add_mul, show 2 ^ c - rest + key = 2 ^ n by omega, etot]
    omega
  have hrunle : run ≤ n := by omega
  have hz1 : bits_LeadingZeros64.f ((18446744073709551615 - key * 2 ^ (64 - n) : Nat) : Int) = some (run : Int) := by
    rw [hlack]
    by_cases hc0 : c = 0
    · have hr0 : rest = 0 := by
        rw [hc0] at hrc
        simp at hrc
        exact hrc
      rw [hc0, hr0, Nat.pow_zero, Nat.sub_zero, Nat.one_mul]
      have hrn : run = n := by omega
      by_cases h64 : n = 64
      · rw [hrn, h64]
        exact lz64_zero
      · obtain ⟨d, hd⟩ : ∃ d, 64 - n = d + 1 := ⟨63 - n, by omega⟩
        have := Nat.two_pow_pos d
        rw [hd, lz64 (L := d) (by rw [Nat.pow_succ]; omega) (by rw [Nat.pow_succ]; omega) (by omega), show 63 - d = n by omega, hrn]
    · have hcl : 2 ^ c = 2 ^ left * 2 := by rw [← Nat.pow_succ, show left.succ = c by omega]
      have b1 : (2 ^ left + 1) * 2 ^ (64 - n) ≤ (2 ^ c - rest) * 2 ^ (64 - n) := Nat.mul_le_mul_right _ (by omega)
      have b2 : (2 ^ c - rest) * 2 ^ (64 - n) ≤ 2 ^ c * 2 ^ (64 - n) := Nat.mul_le_mul_right _ (Nat.sub_le _ _)
      rw [Nat.add_mul, Nat.one_mul, ← Nat.pow_add] at b1
      rw [← Nat.pow_add, show c + (64 - n) = left + (64 - n) + 1 by omega] at b2
      have hpp := Nat.two_pow_pos (left + (64 - n) + 1)
      rw [lz64 (L := left + (64 - n)) (by omega) (by omega) (by omega), show 63 - (left + (64 - n)) = run by omega]
  have hmn : mn (run : Int) (n : Int) = (run : Int) := by unfold mn; split <;> omega
  have e1 : wrap64 ((run : Int) - 1) = (r : Int) - (n : Int) := by rw [w64 (by omega) (by omega)]; omega
  have e2 := left_mx (n := n) (run := run) (left := left) hn (by clear e1; omega) (by clear e1; omega)
  have h64 : 0 ≤ wrap64 (64 - (n : Int)) := by rw [w64 (by clear e1 e2; omega) (by clear e1 e2; omega)]; clear e1 e2; omega
  simp only [posit_split.j0]
  rw [if_pos h64, s1, hz0, Option.bind_some, if_pos (show ((63 - 63 : Nat) : Int) = 0 from rfl), xor_ones s2, hz1, Option.bind_some, hmn, e1, e2, f1, f2, f3, f4, f5]

theorem top_or {r n : Nat} (hr : r < 2 ^ n) (h : n ≤ 62) : Go.bits .or .u64 (shl .u64 1 (n : Int)) (r : Int) = ((2 ^ n + r : Nat) : Int) := by
  have h1 := pow_lt64 (n := n) (by omega)
  rw [shl_one (by omega), bits_or_u64_nat _ _ h1 (by omega)]
  congr 1
  have h2 := Nat.shiftLeft_add_eq_or_of_lt hr 1
  rw [Nat.shiftLeft_eq, Nat.one_mul] at h2
  rw [← h2]
theorem split_f {n key : Nat} (n2 : 2 ≤ n) (hn : n ≤ 64) (h0 : 0 < key) (hk : key < 2 ^ n) : posit_split.f 9 ((n : Int) + 1) (key : Int) = posit_split.j0 9 (key : Int) (n : Int) := by
  have ew : posit_wide.f ((n : Int) + 1) = some () := by
    unfold posit_wide.f posit_must.f
    rw [if_pos (by omega), if_pos (decide_eq_true (by omega)), Option.bind_some]
  have e1 : wrap64 ((n : Int) + 1 - 1) = (n : Int) := by rw [w64 (by omega) (by omega)]; omega
  have e2 : wrap64 ((n : Int) - 1) = ((n - 1 : Nat) : Int) := by rw [w64 (by clear e1; omega) (by clear e1; omega)]; clear e1; omega
  have e3 : ((shr .u64 (key : Int) ((n - 1 : Nat) : Int) / 2) == 0) = true := by
    clear e1 e2
    rw [shr_nat (by omega)]
    have : key / 2 ^ (n - 1) / 2 = 0 := by
      rw [Nat.div_div_eq_div_mul, ← Nat.pow_succ, show (n - 1).succ = n by omega, Nat.div_eq_of_lt hk]
    rw [beq_iff_eq]
    generalize key / 2 ^ (n - 1) = q at *
    omega
  have hm : posit_must.f true 1 = some () := rfl
  have hne : ¬ (key : Int) = 0 := by clear e1 e2; omega
  unfold posit_split.f
  rw [ew, Option.bind_some, if_neg hne, e1, e2, if_pos (Int.natCast_nonneg _), e3, hm, Option.bind_some]
theorem posit_value_spec {n key r left rest : Nat} (hn : n ≤ 64) (h0 : 0 < key) (hk : key < 2 ^ n) (h : Cal.PS n key r left rest) :
    ∃ s m : Nat, posit_value.f 9 ((n : Int) + 1) (key : Int) = some ((m : Int), (s : Int) - 4 * (n : Int) - 62) ∧ m * 2 ^ s = Cal.pv r left rest ∧ 0 < m ∧ m < 18446744073709551616 ∧ s ≤ 1000 := by
  have hle := h.left_le
  have hr2 : r + 1 ≤ 2 * n := by
    by_cases hr : r < n
    · have := h.n2; omega
    · exact (h.high (by omega)).1
  have hs : posit_split.j0 9 (key : Int) (n : Int) = some ((r : Int) - (n : Int), ((rest / 2 ^ (left - 2) * 2 ^ (2 - left) : Nat) : Int), ((rest % 2 ^ (left - 2) : Nat) : Int), ((left - 2 : Nat) : Int)) := by
    by_cases hr : r < n
    · exact split_low 8 hn h hr hk
    · exact split_high 8 hn h (by omega) hk
  have hx := Cal.exp_lt left rest h.rlt
  have hfr : rest % 2 ^ (left - 2) < 2 ^ (left - 2) := Nat.mod_lt _ (Nat.two_pow_pos _)
  have hb : left - 2 ≤ 60 := by omega
  have hp := pow_lt64 (n := left - 2 + 1) (by omega)
  rw [Nat.pow_succ] at hp
  have hto := top_or hfr (by omega)
  obtain ⟨t, m, o1, o2, o3, o4⟩ := posit_odd_spec (x := 2 ^ (left - 2) + rest % 2 ^ (left - 2)) (e := 4 * ((r : Int) - (n : Int)) + ((rest / 2 ^ (left - 2) * 2 ^ (2 - left) : Nat) : Int) - ((left - 2 : Nat) : Int)) (by omega) (by omega) (by
    generalize rest / 2 ^ (left - 2) * 2 ^ (2 - left) = E at *
    omega)
  have hG : Cal.pv r left rest = (2 ^ (left - 2) + rest % 2 ^ (left - 2)) * 2 ^ (rest / 2 ^ (left - 2) * 2 ^ (2 - left)) * 2 ^ (62 - (left - 2)) * 16 ^ r := rfl
  rw [o3] at hG
  have hm64 : m ≤ 2 ^ (left - 2) + rest % 2 ^ (left - 2) := by
    rw [o3]
    exact Nat.le_mul_of_pos_right m (Nat.two_pow_pos t)
  generalize hE : rest / 2 ^ (left - 2) * 2 ^ (2 - left) = E at *
  refine ⟨t + E + (62 - (left - 2)) + 4 * r, m, ?_, ?_, o4, by omega, by omega⟩
  · unfold posit_value.f
    rw [split_f h.n2 hn h0 hk, hs, Option.bind_some]
    have e1 : wrap64 (wrap64 (wrap64 (((r : Int) - (n : Int)) * 4) + (E : Int)) - ((left - 2 : Nat) : Int)) = 4 * ((r : Int) - (n : Int)) + (E : Int) - ((left - 2 : Nat) : Int) := by
      rw [w64 (x := ((r : Int) - (n : Int)) * 4) (by omega) (by omega), w64 (x := ((r : Int) - (n : Int)) * 4 + (E : Int)) (by omega) (by omega), w64 (by omega) (by omega)]
      omega
    have e2 : 4 * ((r : Int) - (n : Int)) + (E : Int) - ((left - 2 : Nat) : Int) + (t : Int) = ((t + E + (62 - (left - 2)) + 4 * r : Nat) : Int) - 4 * (n : Int) - 62 := by clear e1; omega
    simp only [hto, e1]
    rw [if_pos (Int.natCast_nonneg _), o1, Option.bind_some, e2]
  · rw [hG, show (16 : Nat) = 2 ^ 4 by rfl, ← Nat.pow_mul, Nat.pow_add, Nat.pow_add, Nat.pow_add]
    simp only [Nat.mul_assoc]

end Go.Proofs.YtmcodbgbjjldnaaDoor.Pr
