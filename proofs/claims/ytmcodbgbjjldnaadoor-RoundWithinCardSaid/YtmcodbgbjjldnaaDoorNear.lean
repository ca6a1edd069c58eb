/- The plain law of round.Nearest: the least key whose boundary the number does not pass. -/
import Derived.Test.YtmcodbgbjjldnaaDoorWith
import Derived.Test.YtmcodbgbjjldnaaDoorPrx13
set_option linter.unusedVariables false
set_option linter.unusedSimpArgs false
namespace Go.Proofs.YtmcodbgbjjldnaaDoor.Pr
open Go.RowKit Go.Proofs.YtmcodbgbjjldnaaDoorW.PrintWords Go.Proofs.YtmcodbgbjjldnaaDoorW.PrintLast Go.Proofs.YtmcodbgbjjldnaaDoorW.PrintMore

/-- The boundary behind a key, and whether a size is to be rounded to that key or a lesser one. -/
def bnd (id : Int) (k : Nat) : Int := match value_Between.f id (k : Int) with
  | some (m, e, _) => bmag m.toNat e
  | none => 0
def wt (id X : Int) (k : Nat) : Bool := decide (X < bnd id k) || (decide (X = bnd id k) && (k % 2 == 0))
theorem bnd_of {id : Int} {k m : Nat} {e : Int} (h : BetOk id (k : Int) m e) : bnd id k = bmag m e := by
  unfold bnd
  rw [h.1]
  rfl
theorem five_pos : (0 : Int) < 5 ^ 5000 := Int.pow_pos (by decide)
theorem bnd_lt {id : Int} (h1 : 1 ≤ id) (h2 : id ≤ 14) {k k' : Nat} (h : k < k') (hk : k' ≤ topK id) : bnd id k < bnd id k' := by
  obtain ⟨l1, l2⟩ := lad_all h1 h2
  obtain ⟨m, e, h3⟩ := l1 k (by omega)
  obtain ⟨m', e', h4⟩ := l1 k' hk
  have h5 := l2 k k' m m' e e' h hk h3 h4
  rw [bnd_of h3, bnd_of h4]
  unfold bmag
  exact Int.mul_lt_mul_of_pos_right (Int.ofNat_lt.2 h5) five_pos
theorem bnd_pos {id : Int} (h1 : 1 ≤ id) (h2 : id ≤ 14) {k : Nat} (hk : k ≤ topK id) : 0 < bnd id k := by
  obtain ⟨l1, l2⟩ := lad_all h1 h2
  obtain ⟨m, e, h3⟩ := l1 k hk
  rw [bnd_of h3]
  unfold bmag bval
  exact Int.mul_pos (Int.natCast_pos.2 (Nat.mul_pos h3.2.1 (Nat.two_pow_pos _))) five_pos
theorem wt_true {id X : Int} {k : Nat} : wt id X k = true ↔ X < bnd id k ∨ (X = bnd id k ∧ k % 2 = 0) := by
  unfold wt
  simp
theorem wt_false {id X : Int} {k : Nat} : wt id X k = false ↔ ¬ (X < bnd id k ∨ (X = bnd id k ∧ k % 2 = 0)) := by
  rw [← wt_true]
  simp
theorem wt_mono {id X : Int} (h1 : 1 ≤ id) (h2 : id ≤ 14) {k k' : Nat} (h : k ≤ k') (hk : k' ≤ topK id) (hw : wt id X k = true) : wt id X k' = true := by
  rcases Nat.lt_or_ge k k' with h3 | h3
  · have h4 := bnd_lt h1 h2 h3 hk
    rw [wt_true] at *
    omega
  · obtain rfl : k = k' := by omega
    exact hw
theorem topK_lt {id : Int} (h1 : 1 ≤ id) (h2 : id ≤ 14) : topK id < 9223372036854775808 ∨ topK id < 18446744073709551615 := by
  obtain rfl | rfl | rfl | rfl | rfl | rfl | rfl | rfl | rfl | rfl | rfl | rfl | rfl | rfl : id = 1 ∨ id = 2 ∨ id = 3 ∨ id = 4 ∨ id = 5 ∨ id = 6 ∨ id = 7 ∨ id = 8 ∨ id = 9 ∨ id = 10 ∨ id = 11 ∨ id = 12 ∨ id = 13 ∨ id = 14 := by omega
  all_goals decide +kernel
theorem sg_neg {a b : Int} : sg a b < 0 ↔ a < b := by
  unfold sg
  (repeat' split) <;> omega
theorem sg_eq {a b : Int} : sg a b = 0 ↔ a = b := by
  unfold sg
  (repeat' split) <;> omega
theorem wt_spec {id : Int} (h1 : 1 ≤ id) (h2 : id ≤ 14) {k : Nat} (hk : k ≤ topK id) {n : Bool} {l : List Int} {two five : Int} (hx : Rt l two five) :
    Ev (fun f => round_within.f f id n l two five (k : Int)) (wt id (mag l two five) k) := by
  obtain ⟨m, e, h3⟩ := (lad_all h1 h2).1 k hk
  have h4 := round_within_spec (n := n) h3 hx
  have h64 := topK_lt h1 h2
  have e1 : (Go.bits .and .u64 (k : Int) 1 == 0) = (k % 2 == 0) := by
    have := bits_and_u64_nat k 1 (by omega) (by decide)
    rw [Nat.and_one_is_mod] at this
    show (Go.bits .and .u64 (k : Int) ((1 : Nat) : Int) == 0) = _
    rw [this]
    rcases Nat.mod_two_eq_zero_or_one k with h | h <;> rw [h] <;> rfl
  have e2 : (decide (sg (mag l two five) (bmag m e) < 0) || (decide (sg (mag l two five) (bmag m e) = 0) && (Go.bits .and .u64 (k : Int) 1 == 0))) = wt id (mag l two five) k := by
    unfold wt
    rw [e1, bnd_of h3, decide_eq_decide.2 sg_neg, decide_eq_decide.2 sg_eq]
  rw [e2] at h4
  exact h4

/-- The greatest key that is told, of either sign. -/
def mostK (id : Int) (neg : Bool) : Nat := if neg = true ∧ id = 10 then 128 else (ft id.toNat 4).toNat
def wid (id : Int) : Nat := (ft id.toNat 1).toNat
theorem most_spec {id : Int} (h1 : 1 ≤ id) (h2 : id ≤ 14) (neg : Bool) (hn : ¬ (neg = true ∧ id = 11)) :
    value_Most.f id neg = some ((mostK id neg : Int), 0) ∧ mostK id neg ≤ topK id ∧ mostK id neg < 2 ^ wid id ∧ 1 ≤ wid id ∧ wid id ≤ 64 ∧ ft id.toNat 1 = (wid id : Int) := by
  obtain rfl | rfl | rfl | rfl | rfl | rfl | rfl | rfl | rfl | rfl | rfl | rfl | rfl | rfl : id = 1 ∨ id = 2 ∨ id = 3 ∨ id = 4 ∨ id = 5 ∨ id = 6 ∨ id = 7 ∨ id = 8 ∨ id = 9 ∨ id = 10 ∨ id = 11 ∨ id = 12 ∨ id = 13 ∨ id = 14 := by omega
  all_goals cases neg
  all_goals first
    | exact absurd ⟨rfl, rfl⟩ hn
    | exact ⟨by rfl, by decide +kernel, by decide +kernel, by decide +kernel, by decide +kernel, by decide +kernel⟩
theorem forms_ok {id : Int} (h1 : 1 ≤ id) (h2 : id ≤ 14) : forms_Of.f id = some (ft id.toNat 0, ft id.toNat 1, ft id.toNat 2, ft id.toNat 3, ft id.toNat 4, ft id.toNat 5, ft id.toNat 6, 0) := of_id h1 h2 rfl
theorem forms_bad {id : Int} (h : ¬ (1 ≤ id ∧ id ≤ 14)) : forms_Of.f id = some (0, 0, 0, 0, 0, 0, 0, 3) := by
  unfold forms_Of.f
  by_cases h1 : id < 1
  · rw [if_pos h1]
  · rw [if_neg h1, if_pos (by omega)]

theorem exact_in_ok {x : Int} (h : -5000 ≤ x ∧ x ≤ 5000) : exact_in.f x = some true := by
  unfold exact_in.f
  rw [if_pos (by omega), decide_eq_true h.2]
theorem exact_Right_spec {n : Bool} {l : List Int} {two five : Int} (hx : Rt l two five) : exact_Right.f n l two five = some true := by
  obtain ⟨x1, x2, x3, x4, x5⟩ := hx
  unfold exact_Right.f
  rw [if_pos (by omega), exact_in_ok x4, exact_in_ok x5]
  by_cases h : (l.length : Int) = 0
  · rw [if_pos h]
    rfl
  · have e : wrap64 ((l.length : Int) - 1) = ((l.length - 1 : Nat) : Int) := by rw [w64 (by omega) (by omega)]; omega
    have hlt : l.length - 1 < l.length := by clear e; omega
    have h3 : l.getLast? = some l[l.length - 1] := by rw [List.getLast?_eq_getElem?]; exact List.getElem?_eq_getElem hlt
    rw [if_neg h, e]
    clear e
    rw [if_pos (by omega), if_pos (by omega), rd_lt hlt, if_neg (x2 _ h3)]
    rfl
theorem round_zero_spec (n : Bool) (l : List Int) (two five : Int) : round_zero.f n l two five = some (decide (l = [])) := by
  unfold round_zero.f
  cases l with
  | nil => rfl
  | cons x l =>
    rw [show ((((x :: l).length : Nat) : Int) == 0) = false from by rw [List.length_cons]; simp; omega]
    simp

/-- The key that is told, of the least one within. -/
def told (kind : Int) (l : List Int) (a : Nat) : Nat := if kind = 1 ∧ a = 0 ∧ l ≠ [] then 1 else a
theorem Near_end {kd id M : Int} {n : Bool} {l : List Int} {two five : Int} {a : Nat} (f : Nat) (q2 q3 q4 q5 q6 q7 : Int) :
    round_Nearest.l0 (f + 1) id M (a : Int) 0 n l two five kd q2 q3 q4 q5 q6 q7 = some ((told kd l a : Int), false, 0) := by
  unfold told
  simp only [round_Nearest.l0, round_zero_spec, Option.bind_some]
  rw [if_neg (by decide)]
  by_cases h1 : kd = 1
  · by_cases h2 : a = 0
    · by_cases h3 : l = []
      · simp [h1, h2, h3]
      · simp [h1, h2, h3]
    · simp [h1, h2]
  · simp [h1]
theorem Near_l0 {id : Int} (h1 : 1 ≤ id) (h2 : id ≤ 14) {n : Bool} {l : List Int} {two five : Int} (hx : Rt l two five) {M a : Nat} (hM : M ≤ topK id) (ha : a ≤ M) (hwa : wt id (mag l two five) a = true) (hlt : ∀ j, j < a → wt id (mag l two five) j = false) (kd q2 q3 q4 q5 q6 q7 : Int) :
    ∀ (d key : Nat), key ≤ a → a < key + 2 ^ d → key + 2 ^ d ≤ 18446744073709551616 → Ev (fun f => round_Nearest.l0 f id (M : Int) (key : Int) ((2 ^ d / 2 : Nat) : Int) n l two five kd q2 q3 q4 q5 q6 q7) ((told kd l a : Int), false, 0)
  | 0, key, c1, c2, c3 => by
    obtain rfl : key = a := by rw [Nat.pow_zero] at c2; omega
    exact Ev.succ (Ev.of fun f => Near_end f ..)
  | d + 1, key, c1, c2, c3 => by
    have ih := Near_l0 h1 h2 (n := n) hx hM ha hwa hlt kd q2 q3 q4 q5 q6 q7 d
    have e0 : 2 ^ (d + 1) / 2 = 2 ^ d := by rw [Nat.pow_succ, Nat.mul_div_cancel _ (by decide)]
    have e1 : 2 ^ (d + 1) = 2 ^ d * 2 := Nat.pow_succ ..
    rw [e0]
    rw [e1] at c2 c3
    have hb := Nat.two_pow_pos d
    generalize (2 : Nat) ^ d = b at *
    have w1 := Aside0.mk (show IntKind.u64.wrap ((key : Int) + (b : Int)) = ((key + b : Nat) : Int) from by rw [wu64 (by omega) (by omega)]; rfl)
    have w2 := Aside0.mk (show IntKind.u64.wrap (((key + b : Nat) : Int) - 1) = ((key + b - 1 : Nat) : Int) from by rw [wu64 (by omega) (by omega)]; omega)
    have hd : ((b : Int) / 2) = ((b / 2 : Nat) : Int) := by omega
    refine Ev.succ ?_
    by_cases hn : key + b ≤ M
    · have hs := wt_spec h1 h2 (k := key + b - 1) (by omega) (n := n) hx
      cases hw : wt id (mag l two five) (key + b - 1) with
      | true =>
        have hle : a < key + b := by
          rcases Nat.lt_or_ge (key + b - 1) a with h | h
          · rw [hlt _ h] at hw; cases hw
          · omega
        rw [hw] at hs
        refine (Ev.bind (g := fun f t => if t = true then round_Nearest.l0 f id (M : Int) (key : Int) ((b / 2 : Nat) : Int) n l two five kd q2 q3 q4 q5 q6 q7 else round_Nearest.l0 f id (M : Int) ((key + b : Nat) : Int) ((b / 2 : Nat) : Int) n l two five kd q2 q3 q4 q5 q6 q7) hs ?_).congr fun f => ?_
        · exact (ih key c1 hle (by omega)).congr fun f => by rw [if_pos rfl]
        · simp only [round_Nearest.l0, w1.out, w2.out, hd]
          rw [if_pos (by omega), if_pos (by omega)]
      | false =>
        have hge : key + b ≤ a := by
          rcases Nat.lt_or_ge (key + b - 1) a with h | h
          · omega
          · rw [wt_mono h1 h2 h (by omega) hwa] at hw; cases hw
        rw [hw] at hs
        refine (Ev.bind (g := fun f t => if t = true then round_Nearest.l0 f id (M : Int) (key : Int) ((b / 2 : Nat) : Int) n l two five kd q2 q3 q4 q5 q6 q7 else round_Nearest.l0 f id (M : Int) ((key + b : Nat) : Int) ((b / 2 : Nat) : Int) n l two five kd q2 q3 q4 q5 q6 q7) hs ?_).congr fun f => ?_
        · exact (ih (key + b) hge (by omega) (by omega)).congr fun f => by rw [if_neg (by decide)]
        · simp only [round_Nearest.l0, w1.out, w2.out, hd]
          rw [if_pos (by omega), if_pos (by omega)]
    · refine (ih key c1 (by omega) (by omega)).congr fun f => ?_
      simp only [round_Nearest.l0, w1.out, hd]
      rw [if_pos (by omega), if_neg (by omega)]

/-- The least key within, and what is told. -/
structure Least (id X : Int) (M a : Nat) : Prop where
  le : a ≤ M
  yes : wt id X a = true
  no : ∀ j, j < a → wt id X j = false
theorem least_ex {id X : Int} (M : Nat) : wt id X M = true → ∃ a, Least id X M a := by
  induction M using Nat.strongRecOn with
  | ind M ih =>
    intro h
    by_cases h0 : ∃ k, k < M ∧ wt id X k = true
    · obtain ⟨k, hk, hw⟩ := h0
      obtain ⟨a, h4, h5, h6⟩ := ih k hk hw
      exact ⟨a, by omega, h5, h6⟩
    · exact ⟨M, Nat.le_refl _, h, fun j hj => by
        cases hw : wt id X j with
        | false => rfl
        | true => exact absurd ⟨j, hj, hw⟩ h0⟩
theorem round_Nearest_spec {id : Int} (h1 : 1 ≤ id) (h2 : id ≤ 14) {neg n : Bool} (hn : ¬ (neg = true ∧ id = 11)) {l : List Int} {two five : Int} (hx : Rt l two five) :
    (wt id (mag l two five) (mostK id neg) = false → Ev (fun f => round_Nearest.f f id neg n l two five) ((mostK id neg : Int), true, 0)) ∧
    (∀ a, Least id (mag l two five) (mostK id neg) a → Ev (fun f => round_Nearest.f f id neg n l two five) ((told (ft id.toNat 0) l a : Int), false, 0)) := by
  obtain ⟨m1, m2, m3, m4, m5, m6⟩ := most_spec h1 h2 neg hn
  have hs := wt_spec h1 h2 m2 (n := n) hx
  have hr := exact_Right_spec (n := n) hx
  have e : ∀ f, round_Nearest.f f id neg n l two five = (round_within.f f id n l two five (mostK id neg : Int)).bind fun t => if t = true then (if 0 ≤ wrap64 ((wid id : Int) - 1) then round_Nearest.l0 f id (mostK id neg : Int) 0 (shl .u64 1 (wrap64 ((wid id : Int) - 1))) n l two five (ft id.toNat 0) (wid id : Int) (ft id.toNat 2) (ft id.toNat 3) (ft id.toNat 4) (ft id.toNat 5) (ft id.toNat 6) else none) else some ((mostK id neg : Int), true, 0) := fun f => by
    simp only [round_Nearest.f, m1, hr, forms_ok h1 h2, Option.bind_some, if_true, m6]
  constructor
  · intro hw
    rw [hw] at hs
    exact (Ev.bind (g := fun f t => if t = true then (if 0 ≤ wrap64 ((wid id : Int) - 1) then round_Nearest.l0 f id (mostK id neg : Int) 0 (shl .u64 1 (wrap64 ((wid id : Int) - 1))) n l two five (ft id.toNat 0) (wid id : Int) (ft id.toNat 2) (ft id.toNat 3) (ft id.toNat 4) (ft id.toNat 5) (ft id.toNat 6) else none) else some ((mostK id neg : Int), true, 0)) hs (Ev.of fun f => by rw [if_neg (by decide)])).congr e
  · intro a ⟨a1, a2, a3⟩
    have hw := wt_mono h1 h2 a1 m2 a2
    rw [hw] at hs
    have w1 := Aside0.mk (show wrap64 ((wid id : Int) - 1) = ((wid id - 1 : Nat) : Int) from by rw [w64 (by omega) (by omega)]; omega)
    have hsh := Aside0.mk (shl_one (n := wid id - 1) (by omega))
    have hp : 2 ^ wid id / 2 = 2 ^ (wid id - 1) := by
      obtain ⟨c, hc⟩ : ∃ c, wid id = c + 1 := ⟨wid id - 1, by omega⟩
      rw [hc, Nat.pow_succ, Nat.mul_div_cancel _ (by decide), Nat.add_sub_cancel]
    have h64 : 2 ^ wid id ≤ 2 ^ 64 := Nat.pow_le_pow_right (by decide) m5
    refine (Ev.bind (g := fun f t => if t = true then (if 0 ≤ wrap64 ((wid id : Int) - 1) then round_Nearest.l0 f id (mostK id neg : Int) 0 (shl .u64 1 (wrap64 ((wid id : Int) - 1))) n l two five (ft id.toNat 0) (wid id : Int) (ft id.toNat 2) (ft id.toNat 3) (ft id.toNat 4) (ft id.toNat 5) (ft id.toNat 6) else none) else some ((mostK id neg : Int), true, 0)) hs ?_).congr e
    refine (Near_l0 h1 h2 (n := n) hx m2 a1 a2 a3 (ft id.toNat 0) (wid id : Int) (ft id.toNat 2) (ft id.toNat 3) (ft id.toNat 4) (ft id.toNat 5) (ft id.toNat 6) (wid id) 0 (by omega) (by omega) (by omega)).congr fun f => ?_
    rw [if_pos rfl, w1.out, hsh.out, hp, if_pos (by exact Int.natCast_nonneg _)]
    rfl

end Go.Proofs.YtmcodbgbjjldnaaDoor.Pr
