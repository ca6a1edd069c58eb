/- The plain laws of nat: products and powers. -/
import Derived.Test.YtmcodbgbjjldnaaDoorNat
import Derived.Lib.Mul64
import Derived.Laws.Bits64b
set_option linter.unusedVariables false
set_option linter.unusedSimpArgs false
namespace Go.Proofs.YtmcodbgbjjldnaaDoor.Pr
open Go.RowKit Go.Proofs.YtmcodbgbjjldnaaDoorW.PrintWords Go.Proofs.YtmcodbgbjjldnaaDoorW.PrintLast Go.Proofs.YtmcodbgbjjldnaaDoorW.PrintMore

theorem wrapN (n : Nat) : IntKind.u64.wrap (n : Int) = ((n % 18446744073709551616 : Nat) : Int) := by
  have : IntKind.u64.wrap (n : Int) = (n : Int) % 18446744073709551616 := by first | rfl | simp [IntKind.wrap]
  rw [this]; omega
theorem andLow (a : Nat) (ha : a < 18446744073709551616) : Go.bits .and .u64 (a : Int) 4294967295 = ((a % 4294967296 : Nat) : Int) := by
  have h := bits_and_u64_nat a 4294967295 ha (by omega)
  have e : a &&& 4294967295 = a % 4294967296 := Nat.and_two_pow_sub_one_eq_mod a 32
  rw [e] at h
  exact h
theorem mul64N (x y : Nat) (hx : x < 18446744073709551616) (hy : y < 18446744073709551616) : bits_Mul64.f x y = some (((x * y / 18446744073709551616 : Nat) : Int), ((x * y % 18446744073709551616 : Nat) : Int)) := by
  obtain ⟨h0, h1, h2, h3⟩ := Go.Lib.mul64_hi x y hx hy
  unfold bits_Mul64.f
  have ex : ((x : Int) / 4294967296) = ((x / 4294967296 : Nat) : Int) := by omega
  have ey : ((y : Int) / 4294967296) = ((y / 4294967296 : Nat) : Int) := by omega
  rw [andLow x hx, andLow y hy, ex, ey]
  simp only [← Int.natCast_mul, wrapN]
  have p11 := Go.Lib.half_mul_le (a := x / 4294967296) (b := y / 4294967296) (by omega) (by omega)
  have p10 := Go.Lib.half_mul_le (a := x / 4294967296) (b := y % 4294967296) (by omega) (by omega)
  have p01 := Go.Lib.half_mul_le (a := x % 4294967296) (b := y / 4294967296) (by omega) (by omega)
  rw [Nat.mod_eq_of_lt h0, Nat.mod_eq_of_lt (by omega : (x / 4294967296) * (y / 4294967296) < 18446744073709551616), Nat.mod_eq_of_lt (by omega : (x / 4294967296) * (y % 4294967296) < 18446744073709551616), Nat.mod_eq_of_lt (by omega : (x % 4294967296) * (y / 4294967296) < 18446744073709551616)]
  have e0 : ((x % 4294967296 * (y % 4294967296) : Nat) : Int) / 4294967296 = ((x % 4294967296 * (y % 4294967296) / 4294967296 : Nat) : Int) := by omega
  rw [e0]
  simp only [← Int.natCast_add, wrapN]
  rw [Nat.mod_eq_of_lt h1, andLow _ h1]
  have e1 : ((x / 4294967296 * (y % 4294967296) + x % 4294967296 * (y % 4294967296) / 4294967296 : Nat) : Int) / 4294967296 = (((x / 4294967296 * (y % 4294967296) + x % 4294967296 * (y % 4294967296) / 4294967296) / 4294967296 : Nat) : Int) := by omega
  rw [e1]
  simp only [← Int.natCast_add, wrapN]
  rw [Nat.mod_eq_of_lt h2]
  have e2 : ((((x / 4294967296 * (y % 4294967296) + x % 4294967296 * (y % 4294967296) / 4294967296) % 4294967296 + x % 4294967296 * (y / 4294967296) : Nat) : Int)) / 4294967296 = (((((x / 4294967296 * (y % 4294967296) + x % 4294967296 * (y % 4294967296) / 4294967296) % 4294967296 + x % 4294967296 * (y / 4294967296)) / 4294967296 : Nat) : Int)) := by omega
  rw [e2]
  simp only [← Int.natCast_add, wrapN]
  have hd : x * y / 18446744073709551616 < 18446744073709551616 := by
    rw [Nat.div_lt_iff_lt_mul (by decide)]
    have := Nat.mul_le_mul (Nat.le_of_lt_succ (show x < 18446744073709551615 + 1 by omega)) (Nat.le_of_lt_succ (show y < 18446744073709551615 + 1 by omega))
    omega
  have h4 : (x / 4294967296) * (y / 4294967296) + ((x / 4294967296) * (y % 4294967296) + (x % 4294967296) * (y % 4294967296) / 4294967296) / 4294967296 < 18446744073709551616 := by omega
  rw [Nat.mod_eq_of_lt h4, h3, Nat.mod_eq_of_lt hd]
theorem mul64 {x y : Int} (hx : 0 ≤ x ∧ x < 18446744073709551616) (hy : 0 ≤ y ∧ y < 18446744073709551616) : ∃ hi lo, bits_Mul64.f x y = some (hi, lo) ∧ x * y = hi * 18446744073709551616 + lo ∧ (0 ≤ hi ∧ hi < 18446744073709551616) ∧ (0 ≤ lo ∧ lo < 18446744073709551616) := by
  obtain ⟨x, rfl⟩ := Int.eq_ofNat_of_zero_le hx.1
  obtain ⟨y, rfl⟩ := Int.eq_ofNat_of_zero_le hy.1
  refine ⟨_, _, mul64N x y (by omega) (by omega), ?_, ?_, ?_⟩
  · rw [← Int.natCast_mul]; omega
  · have hd : x * y / 18446744073709551616 < 18446744073709551616 := by
      rw [Nat.div_lt_iff_lt_mul (by decide)]
      have := Nat.mul_le_mul (Nat.le_of_lt_succ (show x < 18446744073709551615 + 1 by omega)) (Nat.le_of_lt_succ (show y < 18446744073709551615 + 1 by omega))
      omega
    omega
  · omega
theorem add64 {x y c : Int} (hx : 0 ≤ x ∧ x < 18446744073709551616) (hy : 0 ≤ y ∧ y < 18446744073709551616) (hc : 0 ≤ c ∧ c ≤ 1) : ∃ s d, bits_Add64.f x y c = some (s, d) ∧ x + y + c = d * 18446744073709551616 + s ∧ (0 ≤ s ∧ s < 18446744073709551616) ∧ (0 ≤ d ∧ d ≤ 1) := by
  refine ⟨(x + y + c) % 18446744073709551616, (x + y + c) / 18446744073709551616, ?_, ?_, ?_, ?_⟩
  · unfold bits_Add64.f
    rw [if_pos ⟨hx, hy, hc⟩]
  all_goals omega

/-- The inner round's row. -/
theorem Mul_l1 {b : List Int} (hb : Ws b) {i : Nat} {x : Int} (hx : 0 ≤ x ∧ x < 18446744073709551616) {a : List Int} {Q : List Int → Prop} (hL : i + b.length ≤ 4611686018427387904)
    (out0 : List Int) (hlen : i + b.length < out0.length) (hz : rd out0 ((i + b.length : Nat) : Int) = 0)
    (hnext : ∀ out : List Int, Ws out → out.length = out0.length → (∀ p : Nat, i + b.length < p → rd out (p : Int) = rd out0 (p : Int)) → val out = val out0 + pw i * (x * val b) →
      ∃ r, Ev (fun k => nat_Mul.l0 k b out a (a.length : Int) (wrap64 ((i : Int) + 1))) r ∧ Q r) :
    ∀ (d : Nat) (j : Nat) (out : List Int) (c : Int), b.length = j + d → (0 ≤ c ∧ c < 18446744073709551616) → Ws out → out.length = out0.length → (∀ p : Nat, i + b.length ≤ p → rd out (p : Int) = rd out0 (p : Int)) →
      val out + pw (i + j) * c = val out0 + pw i * (x * val (b.take j)) → ∃ r, Ev (fun k => nat_Mul.l1 k b out (i : Int) x c a (a.length : Int) (i : Int) b (b.length : Int) (j : Int)) r ∧ Q r
  | 0, j, out, c, hd, hc, hw, hl, hk, hv => by
    have hj : j = b.length := by clear hv hnext hz hk hc hx; omega
    subst hj
    rw [List.take_length] at hv
    have HV := Aside0.mk hv
    have HZ := Aside0.mk hz
    clear hv hz
    have e1 := Aside0.mk (show wrap64 ((i : Int) + (b.length : Int)) = ((i + b.length : Nat) : Int) from by rw [w64 (by omega) (by omega)]; omega)
    have hlt : i + b.length < out.length := by omega
    obtain ⟨r, hn, hQ⟩ := hnext (out.set (i + b.length) c) (hw.set _ hc.1 hc.2) (by rw [List.length_set, hl]) (fun p hp => by
        rw [← hk p (by omega)]
        unfold Go.Proofs.YtmcodbgbjjldnaaDoorW.PrintWords.rd
        simp only [Int.toNat_natCast, List.getD, List.getElem?_set]
        rw [if_neg (by omega)]) (by
        rw [val_set c hlt, hk _ (Nat.le_refl _), HZ.out]
        rw [Int.sub_zero]
        exact HV.out)
    refine ⟨r, Ev.succ (hn.congr fun k => ?_), hQ⟩
    simp only [nat_Mul.l1, e1.out]
    rw [if_neg (by omega), if_pos (by omega), if_pos (by omega), Int.toNat_natCast]
  | d + 1, j, out, c, hd, hc, hw, hl, hk, hv => by
    have HV := Aside0.mk hv
    have HZ := Aside0.mk hz
    clear hv hz
    have hj : j < b.length := by omega
    have hbj := hb.rd (j : Int)
    obtain ⟨hi, lo, m1, m2, m3, m4⟩ := mul64 hx hbj
    have hmax : x * rd b (j : Int) ≤ 18446744073709551615 * 18446744073709551615 := Int.mul_le_mul (by omega) (by omega) (by omega) (by omega)
    obtain ⟨P, hP⟩ : ∃ P, x * rd b (j : Int) = P := ⟨_, rfl⟩
    rw [hP] at m2 hmax
    have HP := Aside0.mk hP
    clear hP
    obtain ⟨s, u, a1, a2, a3, a4⟩ := add64 m4 hc (c := 0) (by omega)
    have e1 := Aside0.mk (show wrap64 ((i : Int) + (j : Int)) = ((i + j : Nat) : Int) from by rw [w64 (by omega) (by omega)]; omega)
    have e2 := Aside0.mk (show wrap64 ((j : Int) + 1) = ((j + 1 : Nat) : Int) from by rw [w64 (by omega) (by omega)]; omega)
    have hlt : i + j < out.length := by omega
    have ho := hw.rd ((i + j : Nat) : Int)
    obtain ⟨t, v, b1, b2, b3, b4⟩ := add64 ho a3 (c := 0) (by omega)
    -- the new carry
    have hsum : P + c + rd out ((i + j : Nat) : Int) = (hi + u + v) * 18446744073709551616 + t := by omega
    have hcar : 0 ≤ hi + u + v ∧ hi + u + v < 18446744073709551616 := by omega
    have ew := Aside0.mk (show IntKind.u64.wrap (IntKind.u64.wrap (hi + u) + v) = hi + u + v from by rw [wu64 (x := hi + u) (by omega) (by omega), wu64 (by omega) (by omega)])
    obtain ⟨r, ih, hQ⟩ := Mul_l1 hb hx hL out0 hlen HZ.out hnext d (j + 1) (out.set (i + j) t) (hi + u + v) (by omega) hcar (hw.set _ b3.1 b3.2) (by rw [List.length_set, hl]) (fun p hp => by
        rw [← hk p hp]
        unfold Go.Proofs.YtmcodbgbjjldnaaDoorW.PrintWords.rd
        simp only [Int.toNat_natCast, List.getD, List.getElem?_set]
        rw [if_neg (by omega)]) (by
        rw [val_set t hlt, val_take_succ hj, ← rd_lt hj]
        have hB : pw (i + (j + 1)) = pw (i + j) * 18446744073709551616 := pw_succ (i + j)
        have hP : pw (i + j) = pw i * pw j := pw_add _ _
        rw [hB]
        have hv := HV.out
        have hP' := HP.out
        have : pw (i + j) * (t - rd out ((i + j : Nat) : Int)) + pw (i + j) * 18446744073709551616 * (hi + u + v) = pw (i + j) * c + pw (i + j) * P := by
          have hs : c + P + rd out ((i + j : Nat) : Int) = (hi + u + v) * 18446744073709551616 + t := by omega
          clear hk hnext HV HZ hv m2 a2 b2 hsum hcar hmax hP'
          grind
        clear hk hnext HV HZ m2 a2 b2 hsum hcar hmax
        generalize val out = V at *
        generalize val out0 = V0 at *
        generalize val (b.take j) = Vt at *
        generalize rd b (j : Int) = y at *
        generalize rd out ((i + j : Nat) : Int) = o at *
        have e1 : pw i * (x * (Vt + pw j * y)) = pw i * (x * Vt) + pw i * pw j * (x * y) := by grind
        rw [e1, hP', ← hP]
        omega)
    refine ⟨r, Ev.succ (ih.congr fun k => ?_), hQ⟩
    simp only [nat_Mul.l1, m1, Option.bind_some, a1, e1.out, b1, ew.out, e2.out]
    rw [if_pos (by omega), if_pos (by omega), if_pos (by omega), if_pos (by omega), if_pos (by omega), Int.toNat_natCast]
theorem Mul_l0 {a b : List Int} (ha : Ws a) (hb : Ws b) (hL : a.length + b.length ≤ 4611686018427387904) : ∀ (d i : Nat) (out : List Int), a.length = i + d → Ws out → out.length = a.length + b.length → (∀ p : Nat, i + b.length ≤ p → rd out (p : Int) = 0) → val out = val (a.take i) * val b →
    ∃ r, Ev (fun k => nat_Mul.l0 k b out a (a.length : Int) (i : Int)) r ∧ val r = val a * val b ∧ Ws r ∧ Tr r ∧ r.length ≤ a.length + b.length
  | 0, i, out, hd, hw, hl, hz, hv => by
    have hi : i = a.length := by omega
    subst hi
    rw [List.take_length] at hv
    refine ⟨trimL out, Ev.succ (Ev.of fun k => ?_), by rw [val_trim, hv], hw.trim, Tr.trim _, by have := len_trim out; omega⟩
    simp only [nat_Mul.l0, nat_trim.f, Option.bind_some]
    rw [if_neg (by omega)]
  | d + 1, i, out, hd, hw, hl, hz, hv => by
    have hi : i < a.length := by omega
    have hai := ha.rd (i : Int)
    have e1 := Aside0.mk (show wrap64 ((i : Int) + 1) = ((i + 1 : Nat) : Int) from by rw [w64 (by omega) (by omega)]; omega)
    -- what is told behind
    have step : ∀ out' : List Int, Ws out' → out'.length = out.length → (∀ p : Nat, i + b.length < p → rd out' (p : Int) = rd out (p : Int)) → val out' = val out + pw i * (rd a (i : Int) * val b) →
        ∃ r, Ev (fun k => nat_Mul.l0 k b out' a (a.length : Int) (wrap64 ((i : Int) + 1))) r ∧ val r = val a * val b ∧ Ws r ∧ Tr r ∧ r.length ≤ a.length + b.length := by
      intro out' hw' hl' hk' hv'
      rw [e1.out]
      refine Mul_l0 ha hb hL d (i + 1) out' (by omega) hw' (by omega) (fun p hp => by rw [hk' p (by omega)]; exact hz p (by omega)) ?_
      rw [hv', hv, val_take_succ hi, ← rd_lt hi]
      grind
    have hlen : i + b.length < out.length := by omega
    obtain ⟨r, hr, hQ⟩ := Mul_l1 (a := a) hb hai (by omega) out hlen (hz _ (Nat.le_refl _)) step b.length 0 out 0 (by omega) (by omega) hw rfl (fun _ _ => rfl) (by simp [val])
    refine ⟨r, Ev.succ (hr.congr fun k => ?_), hQ⟩
    simp only [nat_Mul.l0]
    rw [if_pos (by omega), if_pos (by omega), if_pos (by omega)]
    rfl
theorem rd_rep (n : Nat) (i : Int) : rd (List.replicate n 0) i = 0 := by
  unfold Go.Proofs.YtmcodbgbjjldnaaDoorW.PrintWords.rd
  simp only [List.getD, List.getElem?_replicate]
  split <;> rfl
theorem val_rep : ∀ n : Nat, val (List.replicate n 0) = 0
  | 0 => rfl
  | n + 1 => by rw [List.replicate_succ, val, val_rep n]; rfl
theorem nat_Mul_spec {a b : List Int} (ha : Ws a) (hb : Ws b) (hL : a.length + b.length ≤ 35184372088832) : ∃ r, Ev (fun k => nat_Mul.f k a b) r ∧ val r = val a * val b ∧ Ws r ∧ Tr r ∧ r.length ≤ a.length + b.length := by
  obtain ⟨r, hr, hQ⟩ := Mul_l0 ha hb (by omega) a.length 0 (List.replicate (a.length + b.length) 0) (by omega) (Ws.rep _) (by rw [List.length_replicate]) (fun p _ => rd_rep _ _) (by rw [val_rep]; simp [val])
  have e1 : wrap64 ((a.length : Int) + (b.length : Int)) = ((a.length + b.length : Nat) : Int) := by rw [w64 (by omega) (by omega)]; omega
  refine ⟨r, hr.congr fun k => ?_, hQ⟩
  simp only [nat_Mul.f, e1, Int.toNat_natCast]
  clear e1
  rw [if_pos (by omega), if_pos (by omega)]
  rfl

end Go.Proofs.YtmcodbgbjjldnaaDoor.Pr
