/- The plain law of exact.Cmp: it compares the numbers' sizes. -/
import Derived.Test.YtmcodbgbjjldnaaDoorNatd
import Derived.Test.YtmcodbgbjjldnaaDoorPrx3
set_option linter.unusedVariables false
set_option linter.unusedSimpArgs false
namespace Go.Proofs.YtmcodbgbjjldnaaDoor.Pr
open Go.RowKit Go.Proofs.YtmcodbgbjjldnaaDoorW.PrintWords Go.Proofs.YtmcodbgbjjldnaaDoorW.PrintLast Go.Proofs.YtmcodbgbjjldnaaDoorW.PrintMore

def zz (i : Nat) : Nat := if 5000 ≤ i then 11610 + (i - 5000) * 2321928095 / 1000000000 else 11610 - (5000 - i) * 2321928095 / 1000000000
def fiveOk (i : Nat) : Bool := decide (10000 < i) || (decide (2 ^ zz i ≤ 4 * 5 ^ i) && decide (5 ^ i < 2 ^ (zz i + 1)))
def allOk : Nat → Nat → Bool
  | 0, lo => fiveOk lo
  | d + 1, lo => allOk d lo && allOk d (lo + 2 ^ d)
theorem allOk_all : ∀ (d lo : Nat), allOk d lo = true → ∀ i, lo ≤ i → i < lo + 2 ^ d → fiveOk i = true
  | 0, lo, h, i, h1, h2 => by
    obtain rfl : i = lo := by simp at h2; omega
    exact h
  | d + 1, lo, h, i, h1, h2 => by
    simp only [allOk, Bool.and_eq_true] at h
    rcases Nat.lt_or_ge i (lo + 2 ^ d) with h3 | h3
    · exact allOk_all d lo h.1 i h1 h3
    · exact allOk_all d _ h.2 i h3 (by rw [Nat.pow_succ] at h2; omega)
theorem allOk14 : allOk 14 0 = true := by decide +kernel
theorem five_two {i : Nat} (h : i ≤ 10000) : 2 ^ zz i ≤ 4 * 5 ^ i ∧ 5 ^ i < 2 ^ (zz i + 1) := by
  have := allOk_all 14 0 allOk14 i (Nat.zero_le _) (by simp; omega)
  unfold fiveOk at this
  simp only [Bool.or_eq_true, Bool.and_eq_true, decide_eq_true_eq] at this
  rcases this with h1 | h1
  · omega
  · exact h1
theorem five_twoI {i : Nat} (h : i ≤ 10000) : (2 : Int) ^ zz i ≤ 4 * 5 ^ i ∧ (5 : Int) ^ i < 2 ^ (zz i + 1) := by
  obtain ⟨h1, h2⟩ := five_two h
  constructor
  · have : ((2 ^ zz i : Nat) : Int) ≤ ((4 * 5 ^ i : Nat) : Int) := Int.ofNat_le.2 h1
    rw [Int.natCast_mul, Int.natCast_pow, Int.natCast_pow] at this
    exact this
  · have : ((5 ^ i : Nat) : Int) < ((2 ^ (zz i + 1) : Nat) : Int) := Int.ofNat_lt.2 h2
    rw [Int.natCast_pow, Int.natCast_pow] at this
    exact this

/-- A number's size, all in one. -/
def mag (l : List Int) (two five : Int) : Int := val l * 2 ^ (two + 5000).toNat * 5 ^ (five + 5000).toNat

theorem zz_div {f : Int} (h0 : -5000 ≤ f) (h1 : f ≤ 5000) : wrap64 (Int.tdiv (wrap64 (f * 2321928095)) 1000000000) = (zz (f + 5000).toNat : Int) - 11610 ∧ zz (f + 5000).toNat ≤ 30000 := by
  have e : wrap64 (f * 2321928095) = f * 2321928095 := w64 (by omega) (by omega)
  rw [e]
  clear e
  have key : Int.tdiv (f * 2321928095) 1000000000 = (zz (f + 5000).toNat : Int) - 11610 ∧ zz (f + 5000).toNat ≤ 30000 := by
    unfold zz
    rcases Int.lt_or_le f 0 with hf | hf
    · obtain ⟨n, hn⟩ : ∃ n : Nat, f = -(n : Int) := ⟨(-f).toNat, by omega⟩
      subst hn
      rw [if_neg (by omega), Int.neg_mul, Int.neg_tdiv, Int.tdiv_eq_ediv_of_nonneg (by omega)]
      have : (5000 - (-(n : Int) + 5000).toNat) = n := by omega
      rw [this]
      omega
    · obtain ⟨n, rfl⟩ := Int.eq_ofNat_of_zero_le hf
      rw [if_pos (by omega), Int.tdiv_eq_ediv_of_nonneg (by omega)]
      have : (((n : Int) + 5000).toNat - 5000) = n := by omega
      rw [this]
      omega
  rw [w64 (by omega) (by omega)]
  exact key

theorem far_lt {a b : List Int} {La Lb A B i j : Nat} (ha : 2 ^ (La - 1) ≤ val a) (hLa : 0 < La) (hb : val b < 2 ^ Lb) (hb0 : 0 < val b) (hi : i ≤ 10000) (hj : j ≤ 10000) (h : Lb + B + zz j + 7 ≤ La + A + zz i) :
    val b * 2 ^ B * 5 ^ j < val a * 2 ^ A * 5 ^ i := by
  obtain ⟨h1, _⟩ := five_twoI hi
  obtain ⟨_, h2⟩ := five_twoI hj
  have pA := two_pos A
  have pB := two_pos B
  have p5i : (0 : Int) < 5 ^ i := Int.pow_pos (by decide)
  have p5j : (0 : Int) < 5 ^ j := Int.pow_pos (by decide)
  have u1 : val b * 2 ^ B * 5 ^ j ≤ 2 ^ Lb * 2 ^ B * 2 ^ (zz j + 1) := by
    have s1 : val b * 2 ^ B ≤ 2 ^ Lb * 2 ^ B := Int.mul_le_mul_of_nonneg_right (Int.le_of_lt hb) (Int.le_of_lt pB)
    exact Int.mul_le_mul s1 (Int.le_of_lt h2) (Int.le_of_lt p5j) (Int.le_of_lt (Int.mul_pos (two_pos _) pB))
  have u2 : 2 ^ (La - 1) * 2 ^ A * 2 ^ zz i ≤ val a * 2 ^ A * (4 * 5 ^ i) := by
    have s1 : 2 ^ (La - 1) * 2 ^ A ≤ val a * 2 ^ A := Int.mul_le_mul_of_nonneg_right ha (Int.le_of_lt pA)
    have s2 : (0 : Int) ≤ val a * 2 ^ A := Int.le_trans (Int.le_of_lt (Int.mul_pos (two_pos _) pA)) s1
    exact Int.mul_le_mul s1 h1 (Int.le_of_lt (two_pos _)) s2
  rw [← Int.pow_add, ← Int.pow_add] at u1 u2
  obtain ⟨d, hd⟩ : ∃ d, La - 1 + A + zz i = Lb + B + (zz j + 1) + 5 + d := ⟨La - 1 + A + zz i - (Lb + B + (zz j + 1) + 5), by omega⟩
  rw [hd, Int.pow_add, Int.pow_add] at u2
  have u3 : (2 : Int) ^ (Lb + B + (zz j + 1)) * 2 ^ 5 * 1 ≤ 2 ^ (Lb + B + (zz j + 1)) * 2 ^ 5 * 2 ^ d := Int.mul_le_mul_of_nonneg_left (one_le_pow (by decide) d) (Int.le_of_lt (Int.mul_pos (two_pos _) (two_pos _)))
  have u4 : val a * 2 ^ A * (4 * 5 ^ i) = 4 * (val a * 2 ^ A * 5 ^ i) := by grind
  have u5 := two_pos (Lb + B + (zz j + 1))
  rw [u4] at u2
  generalize val a * 2 ^ A * 5 ^ i = X at *
  generalize val b * 2 ^ B * 5 ^ j = Y at *
  generalize (2 : Int) ^ (Lb + B + (zz j + 1)) = Z at *
  generalize Z * 2 ^ 5 * 2 ^ d = T at *
  clear h1 h2 pA pB p5i p5j hd h ha hb hb0 hLa hi hj u4
  have : (2 : Int) ^ 5 = 32 := by decide
  rw [this] at u3
  omega

theorem sg_mul {x y c : Int} (hc : 0 < c) : sg (x * c) (y * c) = sg x y := by
  unfold sg
  rcases Int.lt_or_le x y with h | h
  · rw [if_pos h, if_pos (Int.mul_lt_mul_of_pos_right h hc)]
  · have h2 : y * c ≤ x * c := Int.mul_le_mul_of_nonneg_right h (Int.le_of_lt hc)
    by_cases he : x = y
    · subst he; simp
    · have h3 : y * c < x * c := Int.mul_lt_mul_of_pos_right (by omega) hc
      rw [if_neg (by omega), if_neg (by omega), if_neg (by omega), if_neg he]

theorem size_spec {n : Bool} {l : List Int} {two five : Int} (hw : Ws l) (hL : l.length ≤ 128) (ht : -5000 ≤ two ∧ two ≤ 5000) (hf : -5000 ≤ five ∧ five ≤ 5000) :
    ∃ L : Nat, exact_size.f n l two five = some ((L : Int) + two + ((zz (five + 5000).toNat : Int) - 11610)) ∧ L ≤ 8192 ∧ zz (five + 5000).toNat ≤ 30000 ∧ (0 < val l → 0 < L ∧ 2 ^ (L - 1) ≤ val l ∧ val l < 2 ^ L) := by
  obtain ⟨L, h1, h2, h3, h4⟩ := nat_Bits_spec hw (by omega)
  obtain ⟨z1, z2⟩ := zz_div hf.1 hf.2
  refine ⟨L, ?_, by omega, z2, h4⟩
  unfold exact_size.f
  rw [h1, Option.bind_some, z1, w64 (x := (L : Int) + two) (by omega) (by omega), w64 (by omega) (by omega)]

theorem mag_pos {l : List Int} (h : 0 < val l) (two five : Int) : 0 < mag l two five := by
  unfold mag
  exact Int.mul_pos (Int.mul_pos h (two_pos _)) (Int.pow_pos (by decide))
theorem sg_pos_left {x y : Int} (hx : x = 0) (hy : 0 < y) : sg x y = -1 := by unfold sg; rw [if_pos (by omega)]
theorem sg_pos_right {x y : Int} (hx : 0 < x) (hy : y = 0) : sg x y = 1 := by unfold sg; rw [if_neg (by omega), if_neg (by omega)]
theorem sg_zero {x y : Int} (hx : x = 0) (hy : y = 0) : sg x y = 0 := by unfold sg; rw [if_neg (by omega), if_pos (by omega)]

/-- THE LAW of exact.Cmp. -/
theorem exact_Cmp_spec {n m : Bool} {a b : List Int} {t1 f1 t2 f2 : Int} (ha : Ws a) (ta : Tr a) (la : a.length ≤ 128) (hb : Ws b) (tb : Tr b) (lb : b.length ≤ 128)
    (ht1 : -5000 ≤ t1 ∧ t1 ≤ 5000) (hf1 : -5000 ≤ f1 ∧ f1 ≤ 5000) (ht2 : -5000 ≤ t2 ∧ t2 ≤ 5000) (hf2 : -5000 ≤ f2 ∧ f2 ≤ 5000) :
    Ev (fun k => exact_Cmp.f k n a t1 f1 m b t2 f2) (sg (mag a t1 f1) (mag b t2 f2)) := by
  have hzero : (a = [] ∨ b = []) → Ev (fun k => exact_Cmp.f k n a t1 f1 m b t2 f2) (sg (mag a t1 f1) (mag b t2 f2)) := by
    intro h0
    have hs : sg (val a) (val b) = sg (mag a t1 f1) (mag b t2 f2) := by
      by_cases ea : a = []
      · have va : val a = 0 := by rw [ea]; rfl
        have ma : mag a t1 f1 = 0 := by unfold mag; rw [va]; simp
        by_cases eb : b = []
        · have vb : val b = 0 := by rw [eb]; rfl
          rw [sg_zero va vb, sg_zero ma (by unfold mag; rw [vb]; simp)]
        · rw [sg_pos_left va (tb.pos hb eb), sg_pos_left ma (mag_pos (tb.pos hb eb) _ _)]
      · have eb : b = [] := h0.resolve_left ea
        have vb : val b = 0 := by rw [eb]; rfl
        rw [sg_pos_right (ta.pos ha ea) vb, sg_pos_right (mag_pos (ta.pos ha ea) _ _) (by unfold mag; rw [vb]; simp)]
    rw [← hs]
    refine Ev.succ ((nat_Cmp_spec ha hb (by omega) (by omega)).congr fun k => ?_)
    unfold exact_Cmp.f
    by_cases ea : a = []
    · subst ea
      rw [if_pos (show (([] : List Int).length : Int) = 0 from rfl)]
      simp only [exact_Cmp.j0, if_true]
      cases nat_Cmp.f k [] b <;> rfl
    · have eb : b = [] := h0.resolve_left ea
      subst eb
      rw [if_neg (by simpa using ea)]
      simp only [exact_Cmp.j0, List.length_nil, Int.natCast_zero, beq_self_eq_true, if_true]
      cases nat_Cmp.f k a [] <;> rfl
  by_cases ea : a = []
  · exact hzero (.inl ea)
  by_cases eb : b = []
  · exact hzero (.inr eb)
  clear hzero
  have va := ta.pos ha ea
  have vb := tb.pos hb eb
  obtain ⟨La, sa1, sa2, sa3, sa4⟩ := size_spec (n := n) ha la ht1 hf1
  obtain ⟨Lb, sb1, sb2, sb3, sb4⟩ := size_spec (n := m) hb lb ht2 hf2
  obtain ⟨xa0, xa1, xa2⟩ := sa4 va
  obtain ⟨xb0, xb1, xb2⟩ := sb4 vb
  have hla : ¬ (a.length : Int) = 0 := by simpa using ea
  have hlb : ((b.length : Int) == 0) = false := by simpa using eb
  have head : ∀ k, exact_Cmp.f (k + 1) n a t1 f1 m b t2 f2 = (if ((La : Int) + t1 + ((zz (f1 + 5000).toNat : Int) - 11610)) - ((Lb : Int) + t2 + ((zz (f2 + 5000).toNat : Int) - 11610)) > 6 then some 1 else if ((La : Int) + t1 + ((zz (f1 + 5000).toNat : Int) - 11610)) - ((Lb : Int) + t2 + ((zz (f2 + 5000).toNat : Int) - 11610)) < -6 then some (-1) else
      ((exact_scaled.f k a (t1 - t2) (f1 - f2)).bind fun u => (exact_scaled.f k b (-(t1 - t2)) (-(f1 - f2))).bind fun v => nat_Cmp.f k u v)) := by
    intro k
    have w1 : wrap64 (t1 - t2) = t1 - t2 := w64 (by omega) (by omega)
    have w2 : wrap64 (f1 - f2) = f1 - f2 := w64 (by omega) (by omega)
    have w3 : wrap64 (-(t1 - t2)) = -(t1 - t2) := w64 (by omega) (by omega)
    have w4 : wrap64 (-(f1 - f2)) = -(f1 - f2) := w64 (by omega) (by omega)
    have w5 : wrap64 (((La : Int) + t1 + ((zz (f1 + 5000).toNat : Int) - 11610)) - ((Lb : Int) + t2 + ((zz (f2 + 5000).toNat : Int) - 11610))) = ((La : Int) + t1 + ((zz (f1 + 5000).toNat : Int) - 11610)) - ((Lb : Int) + t2 + ((zz (f2 + 5000).toNat : Int) - 11610)) := w64 (by clear w1 w2 w3 w4; omega) (by clear w1 w2 w3 w4; omega)
    unfold exact_Cmp.f
    rw [if_neg hla, hlb]
    simp only [exact_Cmp.j0, Bool.false_eq_true, if_false, sa1, sb1, Option.bind_some, w1, w2, w3, w4, w5]
    split <;> (try rfl)
    split <;> (try rfl)
    cases exact_scaled.f k a (t1 - t2) (f1 - f2) with
    | none => rfl
    | some u =>
      simp only [Option.bind_some]
      cases exact_scaled.f k b (-(t1 - t2)) (-(f1 - f2)) with
      | none => rfl
      | some v =>
        simp only [Option.bind_some]
        cases nat_Cmp.f k u v <;> rfl
  by_cases hg : ((La : Int) + t1 + ((zz (f1 + 5000).toNat : Int) - 11610)) - ((Lb : Int) + t2 + ((zz (f2 + 5000).toNat : Int) - 11610)) > 6
  · have hlt : mag b t2 f2 < mag a t1 f1 := far_lt xa1 xa0 xb2 vb (by omega) (by omega) (by omega)
    have hs : sg (mag a t1 f1) (mag b t2 f2) = 1 := by unfold sg; rw [if_neg (by omega), if_neg (by omega)]
    rw [hs]
    exact Ev.succ (Ev.of fun k => by rw [head, if_pos hg])
  by_cases hl : ((La : Int) + t1 + ((zz (f1 + 5000).toNat : Int) - 11610)) - ((Lb : Int) + t2 + ((zz (f2 + 5000).toNat : Int) - 11610)) < -6
  · have hlt : mag a t1 f1 < mag b t2 f2 := far_lt xb1 xb0 xa2 va (by omega) (by omega) (by omega)
    have hs : sg (mag a t1 f1) (mag b t2 f2) = -1 := by unfold sg; rw [if_pos hlt]
    rw [hs]
    exact Ev.succ (Ev.of fun k => by rw [head, if_neg hg, if_pos hl])
  obtain ⟨u, u1, u2, u3, u4, u5⟩ := exact_scaled_spec ha (by omega) (two := t1 - t2) (five := f1 - f2) (by omega) (by omega) (by omega)
  obtain ⟨v, v1, v2, v3, v4, v5⟩ := exact_scaled_spec hb (by omega) (two := -(t1 - t2)) (five := -(f1 - f2)) (by omega) (by omega) (by omega)
  have hs : sg (val u) (val v) = sg (mag a t1 f1) (mag b t2 f2) := by
    rw [← sg_mul (c := 5 ^ (min (f1 + 5000).toNat (f2 + 5000).toNat) * 2 ^ (min (t1 + 5000).toNat (t2 + 5000).toNat)) (Int.mul_pos (Int.pow_pos (by decide)) (two_pos _))]
    have e1 : (5 : Int) ^ (f1 + 5000).toNat = 5 ^ (f1 - f2).toNat * 5 ^ (min (f1 + 5000).toNat (f2 + 5000).toNat) := by rw [← Int.pow_add]; congr 1; omega
    have e2 : (5 : Int) ^ (f2 + 5000).toNat = 5 ^ (-(f1 - f2)).toNat * 5 ^ (min (f1 + 5000).toNat (f2 + 5000).toNat) := by rw [← Int.pow_add]; congr 1; omega
    have e3 : (2 : Int) ^ (t1 + 5000).toNat = 2 ^ (t1 - t2).toNat * 2 ^ (min (t1 + 5000).toNat (t2 + 5000).toNat) := by rw [← Int.pow_add]; congr 1; omega
    have e4 : (2 : Int) ^ (t2 + 5000).toNat = 2 ^ (-(t1 - t2)).toNat * 2 ^ (min (t1 + 5000).toNat (t2 + 5000).toNat) := by rw [← Int.pow_add]; congr 1; omega
    unfold mag
    rw [u2, v2, e1, e2, e3, e4]
    congr 1 <;> grind
  rw [← hs]
  refine Ev.succ ?_
  refine (Ev.bind (g := fun k t => (exact_scaled.f k b (-(t1 - t2)) (-(f1 - f2))).bind fun w => nat_Cmp.f k t w) u1 (Ev.bind (g := fun k t => nat_Cmp.f k u t) v1 (nat_Cmp_spec u3 v3 (by omega) (by omega)))).congr fun k => ?_
  rw [head, if_neg hg, if_neg hl]

end Go.Proofs.YtmcodbgbjjldnaaDoor.Pr
