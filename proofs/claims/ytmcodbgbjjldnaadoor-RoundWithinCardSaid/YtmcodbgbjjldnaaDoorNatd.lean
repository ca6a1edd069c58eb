/- The plain laws of nat: shifts; exact's scaled. -/
import Derived.Test.YtmcodbgbjjldnaaDoorNatc
import Derived.Test.YtmcodbgbjjldnaaDoorPrx3
set_option linter.unusedVariables false
set_option linter.unusedSimpArgs false
namespace Go.Proofs.YtmcodbgbjjldnaaDoor.Pr
open Go.RowKit Go.Proofs.YtmcodbgbjjldnaaDoorW.PrintWords Go.Proofs.YtmcodbgbjjldnaaDoorW.PrintLast Go.Proofs.YtmcodbgbjjldnaaDoorW.PrintMore

/-- A word moved by less than a word: its two words. -/
theorem shl_parts {x o : Int} (hx : 0 ≤ x ∧ x < 18446744073709551616) {e : Nat} (he : e < 64) (ho : 0 ≤ o ∧ o < 2 ^ e) :
    ∃ lo hi, Go.bits .or .u64 o (IntKind.u64.wrap (x * 2 ^ e)) = o + lo ∧ x / 2 ^ (64 - e) = hi ∧ x * 2 ^ e = lo + 18446744073709551616 * hi ∧ (0 ≤ o + lo ∧ o + lo < 18446744073709551616) ∧ (0 ≤ hi ∧ hi < 2 ^ e) := by
  obtain ⟨x, rfl⟩ := Int.eq_ofNat_of_zero_le hx.1
  obtain ⟨o, rfl⟩ := Int.eq_ofNat_of_zero_le ho.1
  have hx' : x < 18446744073709551616 := by omega
  have ho' : o < 2 ^ e := by
    have := ho.2
    have h2 : ((2 ^ e : Nat) : Int) = (2 : Int) ^ e := by rw [Int.natCast_pow]; rfl
    omega
  have hE : 2 ^ e * 2 ^ (64 - e) = 18446744073709551616 := by rw [← Nat.pow_add, show e + (64 - e) = 64 by omega]
  have hmod : x * 2 ^ e % 18446744073709551616 = (x % 2 ^ (64 - e)) * 2 ^ e := by
    rw [← hE, Nat.mul_comm (2 ^ e) (2 ^ (64 - e)), Nat.mul_mod_mul_right]
  have hpe := Nat.two_pow_pos e
  have hpd := Nat.two_pow_pos (64 - e)
  have hm1 : x % 2 ^ (64 - e) < 2 ^ (64 - e) := Nat.mod_lt _ hpd
  have hlo : (x % 2 ^ (64 - e)) * 2 ^ e + o < 18446744073709551616 := by
    have : (x % 2 ^ (64 - e) + 1) * 2 ^ e ≤ 2 ^ (64 - e) * 2 ^ e := Nat.mul_le_mul_right _ hm1
    rw [Nat.mul_comm (2 ^ (64 - e)) (2 ^ e), hE, Nat.add_mul, Nat.one_mul] at this
    omega
  refine ⟨(((x % 2 ^ (64 - e)) * 2 ^ e : Nat) : Int), ((x / 2 ^ (64 - e) : Nat) : Int), ?_, ?_, ?_, ?_, ?_⟩
  · have hw : IntKind.u64.wrap ((x : Int) * 2 ^ e) = ((x * 2 ^ e % 18446744073709551616 : Nat) : Int) := by
      rw [show (x : Int) * 2 ^ e = ((x * 2 ^ e : Nat) : Int) by rw [Int.natCast_mul, Int.natCast_pow]; rfl, wrapN]
    rw [hw, hmod, bits_or_u64_nat _ _ (by omega) (by omega)]
    have : o ||| x % 2 ^ (64 - e) * 2 ^ e = x % 2 ^ (64 - e) * 2 ^ e + o := by
      rw [Nat.or_comm, ← Nat.shiftLeft_eq, Nat.shiftLeft_add_eq_or_of_lt ho']
    rw [this]
    omega
  · rw [show (2 : Int) ^ (64 - e) = ((2 ^ (64 - e) : Nat) : Int) by rw [Int.natCast_pow]; rfl, ← Int.natCast_ediv]
  · rw [show (x : Int) * 2 ^ e = ((x * 2 ^ e : Nat) : Int) by rw [Int.natCast_mul, Int.natCast_pow]; rfl]
    have h1 := Nat.div_add_mod (x * 2 ^ e) 18446744073709551616
    have h2 : x * 2 ^ e / 18446744073709551616 = x / 2 ^ (64 - e) := by
      rw [← hE, Nat.mul_comm (2 ^ e) (2 ^ (64 - e)), Nat.mul_div_mul_right _ _ hpe]
    rw [hmod, h2] at h1
    omega
  · generalize x % 2 ^ (64 - e) * 2 ^ e = L at hlo ⊢
    clear hmod hm1 hE hpe hpd ho' he
    omega
  · refine ⟨Int.natCast_nonneg _, ?_⟩
    have : x / 2 ^ (64 - e) < 2 ^ e := by
      rw [Nat.div_lt_iff_lt_mul hpd, hE]
      exact hx'
    have h2 : ((2 ^ e : Nat) : Int) = (2 : Int) ^ e := by rw [Int.natCast_pow]; rfl
    omega

theorem Shl_l0 {a : List Int} (ha : Ws a) {s e : Nat} (he : e < 64) (S : Nat) (hS : S = 64 * s + e) (hL : a.length + s + 1 ≤ 4611686018427387904) (hS2 : S ≤ 131072) : ∀ (d i : Nat) (out : List Int), a.length = i + d → Ws out → out.length = a.length + s + 1 → (∀ p : Nat, i + s < p → rd out (p : Int) = 0) → rd out ((i + s : Nat) : Int) < 2 ^ e → val out = val (a.take i) * (pw s * 2 ^ e) →
    ∃ r, Ev (fun k => nat_Shl.l0 k (S : Int) out a (a.length : Int) (i : Int)) r ∧ val r = val a * 2 ^ S ∧ Ws r ∧ Tr r ∧ r.length ≤ a.length + s + 1
  | 0, i, out, hd, hw, hl, hz, ho, hv => by
    obtain rfl : i = a.length := by omega
    rw [List.take_length] at hv
    refine ⟨trimL out, Ev.succ (Ev.of fun k => ?_), ?_, hw.trim, Tr.trim _, by have := len_trim out; omega⟩
    · simp only [nat_Shl.l0, nat_trim.f, Option.bind_some]
      rw [if_neg (by omega)]
    · rw [val_trim, hv, pw_two, ← Int.pow_add, hS]
  | d + 1, i, out, hd, hw, hl, hz, ho, hv => by
    have HV := Aside0.mk hv
    clear hv
    have hi : i < a.length := by omega
    have hai := ha.rd (i : Int)
    have hro := hw.rd ((i + s : Nat) : Int)
    obtain ⟨lo, hi2, p1, p2, p3, p4, p5⟩ := shl_parts hai he ⟨hro.1, ho⟩
    have e64 : (2 : Int) ^ e < 18446744073709551616 := by
      have h1 : (2 : Nat) ^ e < 2 ^ 64 := Nat.pow_lt_pow_right (by decide) he
      have h2 : ((2 ^ e : Nat) : Int) = (2 : Int) ^ e := by rw [Int.natCast_pow]; rfl
      omega
    have hlt : i + s < out.length := by omega
    have hlt' : i + s + 1 < (out.set (i + s) (rd out ((i + s : Nat) : Int) + lo)).length := by rw [List.length_set]; omega
    have hw1 := hw.set (i + s) p4.1 p4.2
    have hw2 := hw1.set (i + s + 1) (v := hi2) p5.1 (by omega)
    have hr0 : rd (out.set (i + s) (rd out ((i + s : Nat) : Int) + lo)) ((i + s + 1 : Nat) : Int) = 0 := by
      rw [← hz (i + s + 1) (by omega)]
      unfold Go.Proofs.YtmcodbgbjjldnaaDoorW.PrintWords.rd
      simp only [Int.toNat_natCast, List.getD, List.getElem?_set]
      rw [if_neg (by omega)]
    obtain ⟨r, hr, hQ⟩ := Shl_l0 ha he S hS hL hS2 d (i + 1) ((out.set (i + s) (rd out ((i + s : Nat) : Int) + lo)).set (i + s + 1) hi2) (by omega) hw2 (by rw [List.length_set, List.length_set]; omega) (fun p hp => by
        rw [← hz p (by omega)]
        unfold Go.Proofs.YtmcodbgbjjldnaaDoorW.PrintWords.rd
        simp only [Int.toNat_natCast, List.getD, List.getElem?_set]
        rw [if_neg (by omega), if_neg (by omega)]) (by
        have h1 : ((i + 1 + s : Nat) : Int) = ((i + s + 1 : Nat) : Int) := by omega
        rw [h1, rd_lt (by rw [List.length_set]; exact hlt')]
        simp only [List.getElem_set_self]
        exact p5.2) (by
        rw [val_set hi2 hlt', val_set _ hlt, hr0, val_take_succ hi, ← rd_lt hi, HV.out]
        have hB : pw (i + s + 1) = pw (i + s) * 18446744073709551616 := pw_succ (i + s)
        have hP : pw (i + s) = pw i * pw s := pw_add _ _
        rw [hB, hP]
        clear hr0 hw1 hw2 hlt' hlt hz hl HV p1 p2 p4 p5 ho hro
        grind)
    have e1 := Aside0.mk (show wrap64 ((i : Int) + ((S : Int) / 64)) = ((i + s : Nat) : Int) from by
      clear hr0 hw1 hw2 hlt' hz HV p1 p2 p3 p4 p5 ho hro e64 hai hr hQ
      have : (S : Int) / 64 = (s : Int) := by omega
      rw [this, w64 (by omega) (by omega)]; omega)
    have e2 := Aside0.mk (show wrap64 (((i + s : Nat) : Int) + 1) = ((i + s + 1 : Nat) : Int) from by rw [w64 (by omega) (by omega)]; omega)
    have e3 := Aside0.mk (show wrap64 ((i : Int) + 1) = ((i + 1 : Nat) : Int) from by rw [w64 (by omega) (by omega)]; omega)
    have e4 : ((S : Int) % 64).toNat = e := by omega
    have e5 : (64 - (S : Int) % 64).toNat = 64 - e := by omega
    refine ⟨r, Ev.succ (hr.congr fun k => ?_), hQ⟩
    simp only [nat_Shl.l0, e1.out, e2.out, e3.out, e4, e5, p1, p2, Int.toNat_natCast]
    clear hr0 hw1 hw2 hlt' hz HV p1 p2 p3 p4 p5 ho hro e64 e1 e2 e3 hai
    rw [if_pos (by omega), if_pos (by omega), if_pos (by omega), if_pos (by omega), if_pos (by omega), if_pos (by omega), if_pos (by omega)]
theorem mnmx {S N : Int} (h0 : 0 ≤ S) (h : S ≤ N) : mn (mx S 0) N = S := by unfold mn mx; (repeat' split) <;> omega
theorem shl_len {l S : Nat} (hS : S ≤ 131072) (hL : l ≤ 17592186044416) : wrap64 (wrap64 ((l : Int) + (S : Int) / 64) + 1) = ((l + S / 64 + 1 : Nat) : Int) := by
  rw [w64 (x := (l : Int) + (S : Int) / 64) (by omega) (by omega), w64 (by omega) (by omega)]; omega
theorem small (m : List Int) {S : Nat} (hS : S ≤ 131072) (hm : m.length ≤ 17592186044416) : (m.length + S / 64 + 1) ≤ 35184372088832 := by omega
theorem nat_Shl_g (k : Nat) (a m : List Int) {S : Nat} (hm : trimL a = m) (hS : S ≤ 131072) (hL : m.length ≤ 17592186044416) : nat_Shl.f k a (S : Int) = nat_Shl.l0 k (S : Int) (List.replicate (m.length + S / 64 + 1) 0) m (m.length : Int) 0 := by
  unfold nat_Shl.f nat_trim.f
  rw [hm, Option.bind_some, mnmx (S := (S : Int)) (N := 131072) (by omega) (by omega), shl_len hS hL, Int.toNat_natCast]
  rw [if_pos (Int.natCast_nonneg _)]
  rw [if_pos (small m hS hL)]
theorem nat_Shl_f (k : Nat) (a : List Int) {S : Nat} (hS : S ≤ 131072) (hL : a.length ≤ 17592186044416) : nat_Shl.f k a (S : Int) = nat_Shl.l0 k (S : Int) (List.replicate ((trimL a).length + S / 64 + 1) 0) (trimL a) ((trimL a).length : Int) 0 :=
  nat_Shl_g k a (trimL a) rfl hS (Nat.le_trans (len_trim a) hL)
theorem nat_Shl_spec {a : List Int} (ha : Ws a) {S : Nat} (hS : S ≤ 131072) (hL : a.length ≤ 17592186044416) : ∃ r, Ev (fun k => nat_Shl.f k a (S : Int)) r ∧ val r = val a * 2 ^ S ∧ Ws r ∧ Tr r ∧ r.length ≤ a.length + S / 64 + 1 := by
  have hl := len_trim a
  have h0 : rd (List.replicate ((trimL a).length + S / 64 + 1) 0) ((0 + S / 64 : Nat) : Int) < 2 ^ (S % 64) := by rw [rd_rep]; exact two_pos _
  have hv : val (List.replicate ((trimL a).length + S / 64 + 1) 0) = val ((trimL a).take 0) * (pw (S / 64) * 2 ^ (S % 64)) := by rw [val_rep]; simp [val]
  have hn : (trimL a).length + S / 64 + 1 ≤ 4611686018427387904 := Nat.le_trans (small _ hS (Nat.le_trans hl hL)) (by decide)
  obtain ⟨r, hr, h1, h2, h3, h4⟩ := Shl_l0 (a := trimL a) ha.trim (s := S / 64) (e := S % 64) (Nat.mod_lt _ (by decide)) S (Nat.div_add_mod S 64).symm hn hS (trimL a).length 0 (List.replicate ((trimL a).length + S / 64 + 1) 0) (Nat.zero_add _).symm (Ws.rep _) (List.length_replicate ..) (fun p _ => rd_rep _ _) h0 hv
  rw [val_trim] at h1
  refine ⟨r, hr.congr fun k => ?_, h1, h2, h3, Nat.le_trans h4 (Nat.add_le_add_right (Nat.add_le_add_right hl _) _)⟩
  rw [nat_Shl_f k a hS hL]
  rfl

theorem scaled_l0 {two : Int} {S : Nat} (hS : mx two 0 = (S : Int)) (hS2 : S ≤ 131072) : ∀ (d : Nat) (five : Int) (a : List Int), five ≤ 5000 * (d : Int) → d ≤ 8 → five ≤ 20000 → -30000 ≤ five → Ws a → a.length + 1000 * d ≤ 100000 →
    ∃ r, Ev (fun k => exact_scaled.l0 k a two five) r ∧ val r = val a * 5 ^ five.toNat * 2 ^ S ∧ Ws r ∧ Tr r ∧ r.length ≤ 110000
  | d, five, a, hd, hd8, hf, hf2, ha, hL => by
    by_cases h0 : five > 0
    · obtain ⟨d, rfl⟩ : ∃ e, d = e + 1 := ⟨d - 1, by omega⟩
      obtain ⟨n, hn, hn2⟩ : ∃ n : Nat, mn five 5000 = (n : Int) ∧ n ≤ 5000 := ⟨(mn five 5000).toNat, by unfold mn; split <;> omega, by unfold mn; split <;> omega⟩
      obtain ⟨p, p1, p2, p3, p4, p5⟩ := nat_Pow_spec (n := n) (by omega)
      obtain ⟨m, m1, m2, m3, m4, m5⟩ := nat_Mul_spec ha p3 (by omega)
      obtain ⟨r, r1, r2, r3⟩ := scaled_l0 hS hS2 d (five - 5000) m (by omega) (by omega) (by omega) (by omega) m3 (by omega)
      have ew : wrap64 (five - 5000) = five - 5000 := w64 (by omega) (by omega)
      refine ⟨r, Ev.succ ?_, ?_, r3⟩
      · refine (Ev.bind (g := fun k t => (nat_Mul.f k a t).bind fun u => exact_scaled.l0 k u two (five - 5000)) p1 (Ev.bind (g := fun k t => exact_scaled.l0 k t two (five - 5000)) m1 r1)).congr fun k => ?_
        simp only [exact_scaled.l0, hn, ew]
        rw [if_pos h0]
      · rw [r2, m2, p2]
        have : n + (five - 5000).toNat = five.toNat := by
          unfold mn at hn
          split at hn <;> omega
        rw [← this, Int.pow_add, Int.mul_assoc (val a)]
    · obtain ⟨r, r1, r2, r3, r4, r5⟩ := nat_Shl_spec ha hS2 (by omega)
      refine ⟨r, Ev.succ (r1.congr fun k => ?_), ?_, r3, r4, by omega⟩
      · simp only [exact_scaled.l0, hS]
        rw [if_neg h0]
        cases nat_Shl.f k a (S : Int) <;> rfl
      · rw [r2, show five.toNat = 0 by omega, Int.pow_zero, Int.mul_one]
termination_by d => d
theorem exact_scaled_spec {a : List Int} (ha : Ws a) (hL : a.length ≤ 1000) {two five : Int} (ht : two ≤ 131072) (h5 : five ≤ 20000) (h5' : -20000 ≤ five) :
    ∃ r, Ev (fun k => exact_scaled.f k a two five) r ∧ val r = val a * 5 ^ five.toNat * 2 ^ two.toNat ∧ Ws r ∧ Tr r ∧ r.length ≤ 110000 := by
  obtain ⟨r, r1, r2, r3⟩ := scaled_l0 (two := two) (S := two.toNat) (by unfold mx; split <;> omega) (by omega) 4 five a (by omega) (by omega) h5 (by omega) ha (by omega)
  refine ⟨r, r1.congr fun k => ?_, r2, r3⟩
  have e : mn five 20000 = five := by unfold mn; split <;> omega
  simp only [exact_scaled.f, e]

end Go.Proofs.YtmcodbgbjjldnaaDoor.Pr
