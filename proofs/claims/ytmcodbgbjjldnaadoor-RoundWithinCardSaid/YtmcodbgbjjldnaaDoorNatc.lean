/- The plain laws of nat: bits, powers, shifts. -/
import Derived.Test.YtmcodbgbjjldnaaDoorNatb
import Derived.Lib.ItoaNum
set_option linter.unusedVariables false
set_option linter.unusedSimpArgs false
namespace Go.Proofs.YtmcodbgbjjldnaaDoor.Pr
open Go.RowKit Go.Proofs.YtmcodbgbjjldnaaDoorW.PrintWords Go.Proofs.YtmcodbgbjjldnaaDoorW.PrintLast Go.Proofs.YtmcodbgbjjldnaaDoorW.PrintMore

theorem pw_two (n : Nat) : pw n = 2 ^ (64 * n) := by
  rw [pw_eq, show (18446744073709551616 : Int) = 2 ^ 64 by rfl, ← Int.pow_mul]
theorem two_pos (n : Nat) : (0 : Int) < 2 ^ n := Int.pow_pos (by decide)

theorem len64 {x : Int} (h0 : 0 ≤ x) (h1 : x < 18446744073709551616) : ∃ t : Nat, bits_Len64.f x = some (t : Int) ∧ t ≤ 64 ∧ (0 < x → 0 < t ∧ 2 ^ (t - 1) ≤ x ∧ x < 2 ^ t) := by
  obtain ⟨x, rfl⟩ := Int.eq_ofNat_of_zero_le h0
  refine ⟨Go.Lib.bitLen x, ?_, ?_, ?_⟩
  · unfold bits_Len64.f
    rw [if_pos ⟨h0, h1⟩, Int.toNat_natCast]
  · by_cases hx : x = 0
    · subst hx; decide
    · obtain ⟨a, b, c⟩ := Go.Lib.bitLenAux_bounds 64 x (by omega) hx
      show Go.Lib.bitLenAux 64 x ≤ 64
      rcases Nat.lt_or_ge 64 (Go.Lib.bitLenAux 64 x) with h | h
      · have := Nat.pow_le_pow_right (n := 2) (by decide) (show 64 ≤ Go.Lib.bitLenAux 64 x - 1 by omega)
        omega
      · exact h
  · intro hx
    obtain ⟨a, b, c⟩ := Go.Lib.bitLenAux_bounds 64 x (by omega) (by omega)
    refine ⟨a, ?_, ?_⟩
    · have : ((2 ^ (Go.Lib.bitLenAux 64 x - 1) : Nat) : Int) ≤ (x : Int) := by omega
      rw [Int.natCast_pow] at this
      exact this
    · have : (x : Int) < ((2 ^ (Go.Lib.bitLenAux 64 x) : Nat) : Int) := by omega
      rw [Int.natCast_pow] at this
      exact this
theorem nat_Bits_spec {l : List Int} (hw : Ws l) (hL : l.length ≤ 35184372088832) : ∃ L : Nat, nat_Bits.f l = some (L : Int) ∧ L ≤ 64 * l.length ∧ (val l = 0 → L = 0) ∧ (0 < val l → 0 < L ∧ 2 ^ (L - 1) ≤ val l ∧ val l < 2 ^ L) := by
  have hlen := len_trim l
  have hv := val_trim l
  have ht := Tr.trim l
  have hwt := hw.trim
  unfold nat_Bits.f
  simp only [nat_trim.f, Option.bind_some]
  generalize trimL l = m at *
  rcases list_concat m with rfl | ⟨m', x, rfl⟩
  · refine ⟨0, rfl, Nat.zero_le _, fun _ => rfl, fun h => ?_⟩
    rw [← hv] at h
    exact absurd h (by decide)
  · have hx := hwt x (by simp)
    have hx0 := ht x (by simp)
    have hm' : Ws m' := fun y hy => hwt y (by simp [hy])
    obtain ⟨t, h1, h2, h3⟩ := len64 hx.1 hx.2
    obtain ⟨h4, h5, h6⟩ := h3 (by omega)
    have hl : (m' ++ [x]).length = m'.length + 1 := by simp
    have e1 := Aside0.mk (show wrap64 (((m' ++ [x]).length : Int) - 1) = (m'.length : Int) from by rw [hl, w64 (by omega) (by omega)]; omega)
    have e2 := Aside0.mk (show rd (m' ++ [x]) (m'.length : Int) = x from by rw [rd_lt (by omega)]; simp)
    have e3 := Aside0.mk (show wrap64 (wrap64 (64 * (m'.length : Int)) + (t : Int)) = ((64 * m'.length + t : Nat) : Int) from by rw [w64 (x := 64 * (m'.length : Int)) (by omega) (by omega), w64 (by omega) (by omega)]; omega)
    have hval : val (m' ++ [x]) = val m' + pw m'.length * x := val_concat _ _
    have hlo : 2 ^ (64 * m'.length + t - 1) ≤ val (m' ++ [x]) := by
      have n0 := val_nonneg hm'
      have : (2 : Int) ^ (64 * m'.length + t - 1) = pw m'.length * 2 ^ (t - 1) := by
        rw [pw_two, ← Int.pow_add]; congr 1; omega
      have h7 : pw m'.length * 2 ^ (t - 1) ≤ pw m'.length * x := Int.mul_le_mul_of_nonneg_left h5 (Int.le_of_lt (pw_pos _))
      rw [this, hval]
      skip
      omega
    have hhi : val (m' ++ [x]) < 2 ^ (64 * m'.length + t) := by
      have n0 := val_lt hm'
      have : (2 : Int) ^ (64 * m'.length + t) = pw m'.length * 2 ^ t := by
        rw [pw_two, ← Int.pow_add]
      have h7 : pw m'.length * (x + 1) ≤ pw m'.length * 2 ^ t := Int.mul_le_mul_of_nonneg_left (by omega) (Int.le_of_lt (pw_pos _))
      rw [Int.mul_add] at h7
      rw [this, hval]
      skip
      omega
    refine ⟨64 * m'.length + t, ?_, by omega, fun h => ?_, fun _ => ⟨by omega, by rw [← hv]; exact hlo, by rw [← hv]; exact hhi⟩⟩
    · rw [e1.out, e2.out, h1]
      simp only [Option.bind_some, e3.out]
      skip
      rw [if_neg (by omega), if_pos (by omega), if_pos (by omega)]
    · rw [← hv] at h
      have := two_pos (64 * m'.length + t - 1)
      skip
      omega

theorem nat_Of_spec {x : Int} (h0 : 0 ≤ x) (h1 : x < 18446744073709551616) : ∃ r, nat_Of.f x = some r ∧ val r = x ∧ Ws r ∧ Tr r ∧ r.length ≤ 1 := by
  refine ⟨trimL [x], ?_, ?_, Ws.trim (Ws.mk_cons h0 h1 Ws.nil), Tr.trim _, len_trim [x]⟩
  · have hl := len_trim [x]
    simp only [List.length_singleton] at hl
    simp only [nat_Of.f, nat_Norm.f, nat_trim.f, Option.bind_some, api_Nat_uint64.f]
    rw [if_pos (by omega)]
    rfl
  · rw [val_trim]; simp [val]
theorem len_le {l : List Int} (ht : Tr l) (hw : Ws l) {n : Nat} (h : val l < pw n) : l.length ≤ n := by
  by_cases h0 : l = []
  · subst h0; exact Nat.zero_le _
  · rcases Nat.lt_or_ge n l.length with h1 | h1
    · have h2 := ht.ge hw h0
      have h3 := pw_le (show n ≤ l.length - 1 by omega)
      omega
    · exact h1
theorem one_le_pow {x : Int} (h : 1 ≤ x) (n : Nat) : 1 ≤ x ^ n := by
  have := Int.pow_pos (m := n) (show 0 < x by omega)
  omega
theorem Pow_l0 {T : Int} (hT : T < pw 1000) : ∀ (d n : Nat) (out sq : List Int), n ≤ d → n ≤ 10000 → Ws out → Tr out → Ws sq → Tr sq → 1 ≤ val out → 1 ≤ val sq → val out * val sq ^ n = T →
    ∃ r, Ev (fun k => nat_Pow.l0 k (n : Int) out sq) r ∧ val r = T ∧ Ws r ∧ Tr r
  | 0, n, out, sq, hd, _, ho, tou, hs, ts, vo, vs, hv => by
    obtain rfl : n = 0 := by omega
    refine ⟨out, Ev.succ (Ev.of fun k => ?_), by rw [← hv, Int.pow_zero, Int.mul_one], ho, tou⟩
    simp only [nat_Pow.l0]
    rw [if_neg (by omega)]
  | d + 1, n, out, sq, hd, hn, ho, tou, hs, ts, vo, vs, hv => by
    by_cases h0 : n = 0
    · subst h0
      refine ⟨out, Ev.succ (Ev.of fun k => ?_), by rw [← hv, Int.pow_zero, Int.mul_one], ho, tou⟩
      simp only [nat_Pow.l0]
      rw [if_neg (by omega)]
    have p1 := one_le_pow vs n
    have p2 := one_le_pow vs (n - 1)
    have p3 : val sq ^ n = val sq ^ (n - 1) * val sq := by rw [← Int.pow_succ]; congr 1; omega
    have bo : val out ≤ T := by
      have : val out * 1 ≤ val out * val sq ^ n := Int.mul_le_mul_of_nonneg_left p1 (by omega)
      omega
    have bs : val sq ≤ T := by
      have h1 : 1 * val sq ≤ val sq ^ (n - 1) * val sq := Int.mul_le_mul_of_nonneg_right p2 (by omega)
      have h2 : 1 * val sq ^ n ≤ val out * val sq ^ n := Int.mul_le_mul_of_nonneg_right vo (by omega)
      omega
    have lo := len_le tou ho (n := 1000) (by omega)
    have ls := len_le ts hs (n := 1000) (by omega)
    obtain ⟨os, m1, m2, m3, m4, m5⟩ := nat_Mul_spec ho hs (by omega)
    obtain ⟨ss, s1, s2, s3, s4, s5⟩ := nat_Mul_spec hs hs (by omega)
    have hod : 1 ≤ val os := by
      rw [m2]
      have : 1 * val sq ≤ val out * val sq := Int.mul_le_mul_of_nonneg_right vo (by omega)
      omega
    have hsd : 1 ≤ val ss := by
      rw [s2]
      have : 1 * val sq ≤ val sq * val sq := Int.mul_le_mul_of_nonneg_right vs (by omega)
      omega
    have em : Int.tmod (n : Int) 2 = ((n % 2 : Nat) : Int) := by rw [Int.tmod_eq_emod_of_nonneg (by omega)]; omega
    have ed : Int.tdiv (n : Int) 2 = ((n / 2 : Nat) : Int) := by rw [Int.tdiv_eq_ediv_of_nonneg (by omega)]; omega
    have ew : wrap64 (((n / 2 : Nat) : Int)) = ((n / 2 : Nat) : Int) := w64 (by omega) (by omega)
    have EW := Aside0.mk ew
    clear ew
    have hsq : ∀ m : Nat, val ss ^ m = val sq ^ (2 * m) := fun m => by rw [s2, Int.pow_mul, show val sq ^ 2 = val sq * val sq by rw [Int.pow_succ, Int.pow_succ, Int.pow_zero, Int.one_mul]]
    by_cases hodd : n % 2 = 1
    · by_cases h1 : n > 1
      · obtain ⟨r, hr, hQ⟩ := Pow_l0 hT d (n / 2) os ss (by omega) (by omega) m3 m4 s3 s4 hod hsd (by
          rw [hsq, m2, Int.mul_assoc, ← hv]; congr 1
          rw [Int.mul_comm, ← Int.pow_succ]; congr 1; omega)
        refine ⟨r, Ev.succ ?_, hQ⟩
        refine (Ev.bind (g := fun k t => (nat_Mul.f k sq sq).bind fun u => nat_Pow.l0 k ((n / 2 : Nat) : Int) t u) m1 (Ev.bind s1 hr)).congr fun k => ?_
        simp only [nat_Pow.l0, em, ed, EW.out]
        rw [if_pos (by omega), if_pos (by omega)]
        refine congrArg _ (funext fun t => ?_)
        rw [if_pos (by omega)]
      · obtain ⟨r, hr, hQ⟩ := Pow_l0 hT d (n / 2) os sq (by omega) (by omega) m3 m4 hs ts hod vs (by
          rw [m2, ← hv, Int.mul_assoc]; congr 1
          rw [Int.mul_comm, ← Int.pow_succ]; congr 1; omega)
        refine ⟨r, Ev.succ ?_, hQ⟩
        refine (Ev.bind (g := fun k t => nat_Pow.l0 k ((n / 2 : Nat) : Int) t sq) m1 hr).congr fun k => ?_
        simp only [nat_Pow.l0, em, ed, EW.out]
        rw [if_pos (by omega), if_pos (by omega)]
        refine congrArg _ (funext fun t => ?_)
        rw [if_neg (by omega)]
    · have h1 : n > 1 := by omega
      obtain ⟨r, hr, hQ⟩ := Pow_l0 hT d (n / 2) out ss (by omega) (by omega) ho tou s3 s4 vo hsd (by
          rw [hsq, ← hv]; congr 2; omega)
      refine ⟨r, Ev.succ ?_, hQ⟩
      refine (Ev.bind s1 hr).congr fun k => ?_
      simp only [nat_Pow.l0, em, ed, EW.out]
      rw [if_pos (by omega), if_neg (by omega), if_pos (by omega)]
theorem five_lt : (5 : Int) ^ 10000 < pw 1000 := by
  rw [pw_eq]
  decide +kernel
theorem nat_Pow_spec {n : Nat} (hn : n ≤ 10000) : ∃ r, Ev (fun k => nat_Pow.f k 5 (n : Int)) r ∧ val r = 5 ^ n ∧ Ws r ∧ Tr r ∧ r.length ≤ 1000 := by
  obtain ⟨o, o1, o2, o3, o4, o5⟩ := nat_Of_spec (x := 1) (by decide) (by decide)
  obtain ⟨s, s1, s2, s3, s4, s5⟩ := nat_Of_spec (x := 5) (by decide) (by decide)
  have hT : (5 : Int) ^ n < pw 1000 := by
    have h1 : (5 : Int) ^ 10000 = 5 ^ n * 5 ^ (10000 - n) := by rw [← Int.pow_add]; congr 1; omega
    have h2 := one_le_pow (show (1 : Int) ≤ 5 by decide) (10000 - n)
    have h3 := one_le_pow (show (1 : Int) ≤ 5 by decide) n
    have h4 : (5 : Int) ^ n * 1 ≤ 5 ^ n * 5 ^ (10000 - n) := Int.mul_le_mul_of_nonneg_left h2 (by omega)
    have h5 := five_lt
    rw [h1] at h5
    omega
  obtain ⟨r, r1, r2, r3, r4⟩ := Pow_l0 hT n n o s (Nat.le_refl _) hn o3 o4 s3 s4 (by omega) (by omega) (by rw [o2, s2, Int.one_mul])
  refine ⟨r, r1.congr fun k => ?_, r2, r3, r4, len_le r4 r3 (by rw [r2]; exact hT)⟩
  have e : mn (mx (n : Int) 0) 10000 = (n : Int) := by unfold mn mx; (repeat' split) <;> omega
  simp only [nat_Pow.f, o1, s1, Option.bind_some, e]

end Go.Proofs.YtmcodbgbjjldnaaDoor.Pr
