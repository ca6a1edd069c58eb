/- The plain law of RoundSigns: a number of the other sign has the pattern of the other sign. -/
import Derived.Test.YtmcodbgbjjldnaaDoorRound
import Derived.Test.YtmcodbgbjjldnaaDoorGivS
import Derived.Test.YtmcodbgbjjldnaaDoorPrx16
set_option linter.unusedVariables false
set_option linter.unusedSimpArgs false
namespace Go.Proofs.YtmcodbgbjjldnaaDoor.Pr
open Go.RowKit Go.Proofs.YtmcodbgbjjldnaaDoorW.PrintWords Go.Proofs.YtmcodbgbjjldnaaDoorW.PrintLast Go.Proofs.YtmcodbgbjjldnaaDoorW.PrintMore

/-- What the law asks of the two patterns. -/
def SgOk (id mode p q : Int) : Prop :=
  (ft id.toNat 6 ≠ 0 ∧ p = ft id.toNat 6 ∧ q = p ∧ ft id.toNat 5 = 0 ∧ mode = 2) ∨
  (¬ (ft id.toNat 6 ≠ 0 ∧ p = ft id.toNat 6) ∧ ((ft id.toNat 0 = 2 ∧ q = Go.bits .xor .u64 p ((2 ^ (wid id - 1) : Nat) : Int)) ∨ (ft id.toNat 0 = 1 ∧ q = Go.bits .and .u64 (IntKind.u64.wrap (-p)) ((2 ^ wid id - 1 : Nat) : Int))))
theorem most_same {id : Int} (h1 : 1 ≤ id) (h2 : id ≤ 14) (hk : ft id.toNat 0 = 1 ∨ ft id.toNat 0 = 2) (n : Bool) : mostK id n = mostK id false := by
  obtain ⟨f1, f2, f3, f4, f5, f6, f7, f8, f9, f10, f11, f12⟩ := form_facts h1 h2
  cases n with
  | false => rfl
  | true =>
    rcases hk with h | h
    · have := f4 h; omega
    · exact (f12 h).2.1
/-- A key with the sign's bit, or without it. -/
theorem xor_sign {id : Int} (h1 : 1 ≤ id) (h2 : id ≤ 14) {x : Nat} (hx : x < 2 ^ (wid id - 1)) (n : Bool) :
    (if (!n) = true then ((2 ^ (wid id - 1) + x : Nat) : Int) else (x : Int)) = Go.bits .xor .u64 (if n = true then ((2 ^ (wid id - 1) + x : Nat) : Int) else (x : Int)) ((2 ^ (wid id - 1) : Nat) : Int) := by
  obtain ⟨w1, w2, w3, w4⟩ := wid_pow h1 h2
  cases n with
  | false =>
    have := u64_xor_nat x (2 ^ (wid id - 1)) (by omega) (by omega)
    rw [bit_xor_up hx] at this
    simp only [Bool.not_false, if_true, Bool.false_eq_true, if_false]
    exact this.symm
  | true =>
    have := u64_xor_nat (2 ^ (wid id - 1) + x) (2 ^ (wid id - 1)) (by omega) (by omega)
    rw [bit_xor_down hx] at this
    simp only [Bool.not_true, if_true, Bool.false_eq_true, if_false]
    exact this.symm
theorem pat_sign {id mode : Int} (h1 : 1 ≤ id) (h2 : id ≤ 14) (hk : ft id.toNat 0 = 1 ∨ ft id.toNat 0 = 2) {key : Nat} (hkey : key ≤ mostK id false) (n : Bool) : SgOk id mode (patN id n key : Int) (patN id (!n) key : Int) := by
  obtain ⟨w1, w2, w3, w4⟩ := wid_pow h1 h2
  obtain ⟨f1, f2, f3, f4, f5, f6, f7, f8, f9, f10, f11, f12⟩ := form_facts h1 h2
  right
  rcases hk with k | k
  · obtain ⟨g1, g2, g3, g4⟩ := f4 k
    have k2 : ¬ ft id.toNat 0 = 2 := by omega
    have e : ∀ b, patN id b key = if b = true then (2 ^ wid id - key) % 2 ^ wid id else key := fun b => by
      unfold patN
      rw [if_neg k2]
    have hne : ∀ b, patN id b key ≠ 2 ^ (wid id - 1) := fun b => by
      rw [e]
      cases b with
      | false => simp; omega
      | true =>
        rw [if_pos rfl]
        by_cases h0 : key = 0
        · subst h0; rw [Nat.sub_zero, Nat.mod_self]; omega
        · rw [Nat.mod_eq_of_lt (by omega)]; omega
    refine ⟨fun h => hne n ?_, .inr ⟨k, ?_⟩⟩
    · have := h.2
      rw [g3] at this
      exact Int.ofNat.inj this
    · have hlt : patN id n key < 2 ^ wid id := by
        rw [e]
        split
        · exact Nat.mod_lt _ (by omega)
        · omega
      rw [wrap_neg _ (by omega), u64_and_nat _ _ (by omega) (by omega), Nat.and_two_pow_sub_one_eq_mod, neg_mod (by omega) w4, e, e]
      cases n with
      | false => rfl
      | true =>
        simp only [Bool.not_true, Bool.false_eq_true, if_false, if_true]
        by_cases h0 : key = 0
        · subst h0; simp
        · rw [Nat.mod_eq_of_lt (a := 2 ^ wid id - key) (by omega), show 2 ^ wid id - (2 ^ wid id - key) = key by omega, Nat.mod_eq_of_lt (by omega)]
  · obtain ⟨g1, g2, g3, g4, g5, g6⟩ := f12 k
    have hx := (f3 k).2
    have e : ∀ b, (patN id b key : Int) = if b = true then ((2 ^ (wid id - 1) + key : Nat) : Int) else (key : Int) := fun b => by
      unfold patN
      rw [if_pos k]
      split <;> rfl
    refine ⟨fun h => ?_, .inl ⟨k, ?_⟩⟩
    · have h3 := h.2
      rw [e] at h3
      rcases g4 with g | g
      · exact h.1 g
      · split at h3 <;> omega
    · rw [e, e]
      exact xor_sign h1 h2 (by omega) n
theorem large_sign {id mode : Int} (h1 : 1 ≤ id) (h2 : id ≤ 14) (hk : ft id.toNat 0 = 1 ∨ ft id.toNat 0 = 2) (hm : mode = 1 ∨ mode = 2) (n : Bool) : SgOk id mode (largeN id mode n) (largeN id mode (!n)) := by
  obtain ⟨w1, w2, w3, w4⟩ := wid_pow h1 h2
  obtain ⟨f1, f2, f3, f4, f5, f6, f7, f8, f9, f10, f11, f12⟩ := form_facts h1 h2
  unfold largeN
  by_cases c1 : mode = 1 ∨ ft id.toNat 0 = 1 ∨ (ft id.toNat 5 = 0 ∧ ft id.toNat 6 = 0)
  · rw [if_pos c1, if_pos c1, most_same h1 h2 hk n, most_same h1 h2 hk (!n)]
    exact pat_sign h1 h2 hk (Nat.le_refl _) n
  · rw [if_neg c1, if_neg c1]
    have k : ft id.toNat 0 = 2 := by omega
    obtain ⟨g1, g2, g3, g4, g5, g6⟩ := f12 k
    have hx := (f3 k).2
    by_cases c2 : ft id.toNat 5 = 0
    · rw [if_pos c2, if_pos c2]
      exact .inl ⟨by omega, rfl, rfl, c2, by omega⟩
    · rw [if_neg c2, if_neg c2]
      obtain ⟨x, hx5⟩ : ∃ x : Nat, ft id.toNat 5 = (x : Int) := ⟨(ft id.toNat 5).toNat, by omega⟩
      have g6' := g6 c2
      have hxl : x < 2 ^ (wid id - 1) := by omega
      have e := xor_sign h1 h2 hxl n
      rw [hx5]
      refine .inr ⟨fun h => ?_, .inl ⟨k, ?_⟩⟩
      · have h3 := h.2
        split at h3 <;> omega
      · rw [Int.natCast_add] at e
        rw [Int.add_comm]
        exact e
theorem round_sign {id mode : Int} (h1 : 1 ≤ id) (h2 : id ≤ 14) (hk : ft id.toNat 0 = 1 ∨ ft id.toNat 0 = 2) (hm : mode = 1 ∨ mode = 2) {n : Bool} {l : List Int} {X p q : Int} (hp : RoundTo id mode n l X p) (hq : RoundTo id mode (!n) l X q) : SgOk id mode p q := by
  obtain ⟨f1, f2, f3, f4, f5, f6, f7, f8, f9, f10, f11, f12⟩ := form_facts h1 h2
  have hid : ¬ id = 11 := fun h => by have := f7 h; omega
  rcases hp with hp | ⟨_, hp⟩
  · exact absurd hp.1 hid
  rcases hq with hq | ⟨_, hq⟩
  · exact absurd hq.1 hid
  rw [most_same h1 h2 hk n] at hp
  rw [most_same h1 h2 hk (!n)] at hq
  rcases hp with ⟨p1, rfl⟩ | ⟨a, p1, rfl⟩ <;> rcases hq with ⟨q1, rfl⟩ | ⟨b, q1, rfl⟩
  · exact large_sign h1 h2 hk hm n
  · obtain ⟨_, m2, _⟩ := most_spec h1 h2 false (by simp)
    rw [wt_mono h1 h2 q1.le m2 q1.yes] at p1
    cases p1
  · obtain ⟨_, m2, _⟩ := most_spec h1 h2 false (by simp)
    rw [wt_mono h1 h2 p1.le m2 p1.yes] at q1
    cases q1
  · obtain rfl := p1.uniq q1
    exact pat_sign h1 h2 hk (told_le h1 h2 p1.le) n

theorem Signs_j3 {id mode p q : Int} (h1 : 1 ≤ id) (h2 : id ≤ 14) (hs : SgOk id mode p q) (k : Nat) : caliperlaw08_RoundSigns.j2 (k + 1 + 1) true mode p q false (ft id.toNat 0) (ft id.toNat 1) (ft id.toNat 2) (ft id.toNat 3) (ft id.toNat 4) (ft id.toNat 5) (ft id.toNat 6) = some true := by
  obtain ⟨f1, f2, f3, f4, f5, f6, f7, f8, f9, f10, f11, f12⟩ := form_facts h1 h2
  simp only [caliperlaw08_RoundSigns.j2, caliperlaw08_RoundSigns.j3, if_true, f1, f2, Option.bind_some]
  rw [if_neg (by decide)]
  rcases hs with ⟨s1, s2, s3, s4, s5⟩ | ⟨s1, s2⟩
  · rw [if_neg s1, s2, beq_self_eq_true, if_pos rfl, if_pos (s3.trans s2), if_pos s4, s5]
    rfl
  · have e : (if ft id.toNat 6 = 0 then (if (false : Bool) = true then (if q = p then if ft id.toNat 5 = 0 then some (mode == 2) else some false else some false) else if ft id.toNat 0 = 2 then some (q == Go.bits .xor .u64 p (if ft id.toNat 0 = 4 then 0 else ((2 ^ (wid id - 1) : Nat) : Int))) else some (q == Go.bits .and .u64 (IntKind.u64.wrap (-p)) ((2 ^ wid id - 1 : Nat) : Int)))
        else if (p == ft id.toNat 6) = true then (if q = p then if ft id.toNat 5 = 0 then some (mode == 2) else some false else some false) else if ft id.toNat 0 = 2 then some (q == Go.bits .xor .u64 p (if ft id.toNat 0 = 4 then 0 else ((2 ^ (wid id - 1) : Nat) : Int))) else some (q == Go.bits .and .u64 (IntKind.u64.wrap (-p)) ((2 ^ wid id - 1 : Nat) : Int))) = some true := by
      have e2 : (if ft id.toNat 0 = 2 then some (q == Go.bits .xor .u64 p (if ft id.toNat 0 = 4 then 0 else ((2 ^ (wid id - 1) : Nat) : Int))) else some (q == Go.bits .and .u64 (IntKind.u64.wrap (-p)) ((2 ^ wid id - 1 : Nat) : Int))) = some true := by
        rcases s2 with ⟨s3, s4⟩ | ⟨s3, s4⟩
        · rw [if_pos s3, if_neg (by omega), s4, beq_self_eq_true]
        · rw [if_neg (by omega), s4, beq_self_eq_true]
      by_cases c : ft id.toNat 6 = 0
      · rw [if_pos c, if_neg (by decide)]
        exact e2
      · have hp : (p == ft id.toNat 6) = false := beq_eq_false_iff_ne.2 fun h => s1 ⟨c, h⟩
        rw [if_neg c, hp, if_neg (by decide)]
        exact e2
    exact e

theorem Signs_pure (a0 : Int) (a1 n : Bool) (l : List Int) (t v : Int) (b00 : -9223372036854775808 ≤ a0) (b01 : a0 ≤ 9223372036854775807) (hm : l.length ≤ maxLen) (hw : ∀ x ∈ l, (Lit.int .u64 x).wf = true)
    (bt0 : -9223372036854775808 ≤ t) (bt1 : t ≤ 9223372036854775807) (bv0 : -9223372036854775808 ≤ v) (bv1 : v ≤ 9223372036854775807) : ∃ k, caliperlaw08_RoundSigns.f k a0 a1 n l t v = some true := by
  obtain ⟨l', t', v', hs, hsm⟩ := small_spec n (ws_of_wf hw) (len_of_max hm) t v
  obtain ⟨K, hK⟩ := hs
  by_cases hid : 1 ≤ a0 ∧ a0 ≤ 14
  · obtain ⟨h1, h2⟩ := hid
    have hx := Rt.of_small hsm
    by_cases hk : ft a0.toNat 0 = 1 ∨ ft a0.toNat 0 = 2
    · have hmode : (if a1 = true then (2 : Int) else 1) = 1 ∨ (if a1 = true then (2 : Int) else 1) = 2 := by split <;> simp
      obtain ⟨p, ⟨Kp, hKp⟩, hp⟩ := round_Round_spec (mode := if a1 = true then 2 else 1) h1 h2 hmode n hx
      obtain ⟨q, ⟨Kq, hKq⟩, hq⟩ := round_Round_spec (mode := if a1 = true then 2 else 1) h1 h2 hmode (!n) hx
      have hs := round_sign h1 h2 hk hmode hp hq
      refine ⟨K + Kp + Kq + 1 + 1 + 1 + 1, ?_⟩
      have r0 := hK (K + Kp + Kq + 1 + 1 + 1 + 1) (by omega)
      have r1 := hKp (K + Kp + Kq + 1 + 1) (by omega)
      have r2 := hKq (K + Kp + Kq + 1 + 1) (by omega)
      have r3 := Signs_j3 h1 h2 hs (K + Kp + Kq)
      simp only at r0 r1 r2
      have c3 : ¬ ft a0.toNat 0 = 3 := by omega
      have c4 : (ft a0.toNat 0 == 4) = false := beq_eq_false_iff_ne.2 (by omega)
      cases a1 with
      | true =>
        simp only [if_true] at r1 r2 r3
        simp only [caliperlaw08_RoundSigns.f, caliperlaw08_RoundSigns.j0, caliperlaw08_RoundSigns.j1, Option.bind_some, r0, forms_ok h1 h2, if_true, if_neg c3, c4, r1, r2, shown_T, Bool.false_eq_true, if_false]
        exact r3
      | false =>
        simp only [Bool.false_eq_true, if_false] at r1 r2 r3
        simp only [caliperlaw08_RoundSigns.f, caliperlaw08_RoundSigns.j0, caliperlaw08_RoundSigns.j1, Option.bind_some, r0, forms_ok h1 h2, if_true, if_neg c3, c4, r1, r2, shown_T, Bool.false_eq_true, if_false]
        exact r3
    · refine ⟨K + 1, ?_⟩
      have r0 := hK (K + 1) (by omega)
      simp only at r0
      simp only [caliperlaw08_RoundSigns.f, caliperlaw08_RoundSigns.j0, Option.bind_some, r0, forms_ok h1 h2, if_true, shown_T]
      obtain ⟨f1, f2, f3, f4, f5, f6, f7, f8, f9, _⟩ := form_facts h1 h2
      by_cases c3 : ft a0.toNat 0 = 3
      · rw [if_pos c3]
      · have c4 : ft a0.toNat 0 = 4 := by omega
        rw [if_neg c3, c4]
        rfl
  · refine ⟨K + 1, ?_⟩
    have r0 := hK (K + 1) (by omega)
    simp only at r0
    simp only [caliperlaw08_RoundSigns.f, caliperlaw08_RoundSigns.j0, Option.bind_some, r0, forms_bad hid]
    rfl
end Go.Proofs.YtmcodbgbjjldnaaDoor.Pr
