/- The plain law of RoundWithin: a number is within the limits of its pattern. -/
import Derived.Test.YtmcodbgbjjldnaaDoorTurnA
import Derived.Test.YtmcodbgbjjldnaaDoorSmall
import Derived.Test.YtmcodbgbjjldnaaDoorPrxW
set_option linter.unusedVariables false
set_option linter.unusedSimpArgs false
namespace Go.Proofs.YtmcodbgbjjldnaaDoor.Pr
open Go.RowKit Go.Proofs.YtmcodbgbjjldnaaDoorW.PrintWords Go.Proofs.YtmcodbgbjjldnaaDoorW.PrintLast Go.Proofs.YtmcodbgbjjldnaaDoorW.PrintMore

theorem behind_spec {id : Int} (h1 : 1 ≤ id) (h2 : id ≤ 14) {k : Nat} (hk : k ≤ topK id) : ∃ r e, round_behind.f id (k : Int) = some (false, r, e, 0) ∧ Rt r e 0 ∧ mag r e 0 = bnd id k ∧ r ≠ [] := by
  obtain ⟨m, e, hb⟩ := (lad_all h1 h2).1 k hk
  obtain ⟨r, r1, r2, r3, r4, r5⟩ := round_size_spec hb.2.1 hb.2.2.1 hb.2.2.2
  refine ⟨r, e, ?_, ⟨r2, r3, by omega, hb.2.2.2, by decide⟩, ?_, ?_⟩
  · unfold round_behind.f
    rw [hb.1, Option.bind_some, r1]
    rfl
  · rw [bnd_of hb]
    unfold mag bmag bval
    rw [r5, Int.natCast_mul, ← cast_pow]
    rfl
  · rintro rfl
    have := hb.2.1
    simp only [val] at r5
    omega
theorem key_pat' {id : Int} (h1 : 1 ≤ id) (h2 : id ≤ 14) {neg : Bool} {key : Nat} (hk : key ≤ mostK id neg) (hn : ¬ (neg = true ∧ id = 11)) (h0 : ¬ key = 0 ∨ id = 11) : value_Key.f id (patN id neg key : Int) = some (neg, (key : Int), 0) := by
  obtain ⟨b, m, e, hd, hb⟩ := decode_pat h1 h2 hk hn
  obtain ⟨f1, f2, f3, f4, f5, f6, f7, f8, f9, _⟩ := form_facts h1 h2
  have hlt := patN_lt h1 h2 hk hn
  have hp := parts_pat h1 h2 hk hn
  have hne : ¬ (neg = true ∧ ¬ ft id.toNat 0 = 2 ∧ key = 0) := fun h => h0.elim (fun h3 => h3 h.2.2) (fun h3 => hn ⟨h.1, h3⟩)
  rw [if_neg hne] at hp
  unfold value_Key.f
  rw [hd, Option.bind_some, if_pos rfl]
  have c3 : ¬ (if key = 0 ∧ ¬ id = 11 then (1 : Int) else 2) = 3 := by split <;> decide
  have c4 : ¬ (if key = 0 ∧ ¬ id = 11 then (1 : Int) else 2) = 4 := by split <;> decide
  rw [if_neg c3, if_neg c4, forms_ok h1 h2, Option.bind_some, if_pos f9, parts_spec h1 h2 hlt, hp]
  rfl
def okFin (id : Int) (neg : Bool) : Bool := if ft id.toNat 0 = 1 ∨ (ft id.toNat 5 = 0 ∧ ft id.toNat 6 = 0) then true else match value_Decode.f id (largeN id 2 neg) with
  | some (c, _, _, _, _) => c != 2
  | none => false
theorem large_fin {id : Int} (h1 : 1 ≤ id) (h2 : id ≤ 14) {neg : Bool} (hn : ¬ (neg = true ∧ id = 11)) : okFin id neg = true := by
  obtain rfl | rfl | rfl | rfl | rfl | rfl | rfl | rfl | rfl | rfl | rfl | rfl | rfl | rfl : id = 1 ∨ id = 2 ∨ id = 3 ∨ id = 4 ∨ id = 5 ∨ id = 6 ∨ id = 7 ∨ id = 8 ∨ id = 9 ∨ id = 10 ∨ id = 11 ∨ id = 12 ∨ id = 13 ∨ id = 14 := by omega
  all_goals cases neg
  all_goals first
    | exact absurd ⟨rfl, rfl⟩ hn
    | decide +kernel
/-- The greatest key's pattern is an infinity's neighbour, or posits' and others' last one. -/
def fst (id : Int) : Nat := if ft id.toNat 0 = 1 then 2 else 1
def hiSet (id : Int) (neg : Bool) (key : Nat) : Prop := key < mostK id neg ∨ (¬ ft id.toNat 0 = 1 ∧ ¬ (ft id.toNat 5 = 0 ∧ ft id.toNat 6 = 0))
instance (id : Int) (neg : Bool) (key : Nat) : Decidable (hiSet id neg key) := by unfold hiSet; infer_instance
structure InLim (id : Int) (neg : Bool) (key : Nat) (X : Int) : Prop where
  le : key ≤ mostK id neg
  lo : fst id ≤ key → bnd id (key - 1) ≤ X ∧ (bnd id (key - 1) = X → key % 2 = 0)
  hi : hiSet id neg key → X ≤ bnd id key ∧ (X = bnd id key → key % 2 = 0)
  pos : 0 < X
theorem lim_of {id : Int} (h1 : 1 ≤ id) (h2 : id ≤ 14) {n : Bool} {l : List Int} {t v q : Int} (hx : Rt l t v) (hs : ¬ (id = 11 ∧ (n = true ∨ l = [])))
    (hq : (wt id (mag l t v) (mostK id n) = false ∧ q = (patN id n (mostK id n) : Int) ∧ (ft id.toNat 0 = 1 ∨ (ft id.toNat 5 = 0 ∧ ft id.toNat 6 = 0))) ∨ ∃ a, Least id (mag l t v) (mostK id n) a ∧ q = (patN id n (told (ft id.toNat 0) l a) : Int)) :
    ∃ key, q = (patN id n key : Int) ∧ key ≤ mostK id n ∧ ((¬ key = 0 ∨ id = 11) → InLim id n key (mag l t v)) := by
  have hn : ¬ (n = true ∧ id = 11) := fun h => hs ⟨h.2, .inl h.1⟩
  obtain ⟨_, m2, _⟩ := most_spec h1 h2 n hn
  obtain ⟨f1, f2, f3, f4, f5, f6, f7, f8, f9, f10, f11, f12⟩ := form_facts h1 h2
  rcases hq with ⟨hw, rfl, hk⟩ | ⟨a, hL, rfl⟩
  · refine ⟨_, rfl, Nat.le_refl _, fun _ => ⟨Nat.le_refl _, fun h => ?_, fun h => ?_, ?_⟩⟩
    · have hf : 1 ≤ fst id := by unfold fst; split <;> omega
      have hb := bnd_lt h1 h2 (show mostK id n - 1 < mostK id n by omega) m2
      rw [wt_false] at hw
      omega
    · exfalso
      rcases h with h | h
      · omega
      · exact hk.elim h.1 h.2
    · have hb := bnd_pos h1 h2 m2
      rw [wt_false] at hw
      omega
  · have hle := told_le h1 h2 (kd := ft id.toNat 0) (l := l) hL.le
    refine ⟨_, rfl, hle, fun h0 => ?_⟩
    have hyes := hL.yes
    rw [wt_true] at hyes
    have hprev : 0 < a → bnd id (a - 1) ≤ mag l t v ∧ (bnd id (a - 1) = mag l t v → a % 2 = 0) := fun ha => by
      have := hL.no (a - 1) (by omega)
      rw [wt_false] at this
      omega
    have hX : 0 < mag l t v := by
      by_cases hl : l = []
      · exfalso
        subst hl
        rw [mag_nil] at hL
        have ha := (zero_least h1 h2 (mostK id n)).uniq hL
        subst ha
        have ht : told (ft id.toNat 0) [] 0 = 0 := by unfold told; simp
        rw [ht] at h0
        rcases h0 with h0 | h0
        · exact h0 rfl
        · exact hs ⟨h0, .inr rfl⟩
      · exact mag_pos (hx.2.1.pos hx.1 hl) t v
    refine ⟨hle, fun hf => ?_, fun hh => ?_, hX⟩
    · unfold told at hf ⊢
      by_cases c : ft id.toNat 0 = 1 ∧ a = 0 ∧ l ≠ []
      · rw [if_pos c] at hf
        unfold fst at hf
        rw [if_pos c.1] at hf
        omega
      · rw [if_neg c] at hf ⊢
        have : 1 ≤ fst id := by unfold fst; split <;> omega
        exact hprev (by omega)
    · unfold told at hh ⊢
      by_cases c : ft id.toNat 0 = 1 ∧ a = 0 ∧ l ≠ []
      · rw [if_pos c] at hh ⊢
        have hb := bnd_lt h1 h2 (show 0 < 1 by decide) (show 1 ≤ topK id by have := (f4 c.1).2.1; cases n <;> omega)
        rw [c.2.1] at hyes
        omega
      · rw [if_neg c]
        omega

theorem Within_pure (a0 : Int) (n : Bool) (l : List Int) (t v : Int) (b00 : -9223372036854775808 ≤ a0) (b01 : a0 ≤ 9223372036854775807) (hm : l.length ≤ maxLen) (hw : ∀ x ∈ l, (Lit.int .u64 x).wf = true)
    (bt0 : -9223372036854775808 ≤ t) (bt1 : t ≤ 9223372036854775807) (bv0 : -9223372036854775808 ≤ v) (bv1 : v ≤ 9223372036854775807) : ∃ k, caliperlaw08_RoundWithin.f k a0 n l t v = some true := by
  obtain ⟨l', t', v', ⟨K, hK⟩, hsm⟩ := small_spec n (ws_of_wf hw) (len_of_max hm) t v
  by_cases hid : 1 ≤ a0 ∧ a0 ≤ 14
  · obtain ⟨h1, h2⟩ := hid
    have hx := Rt.of_small hsm
    obtain ⟨f1, f2, f3, f4, f5, f6, f7, f8, f9, f10, f11, f12⟩ := form_facts h1 h2
    obtain ⟨q, ⟨Kq, hKq⟩, hq⟩ := round_Round_spec (mode := 2) h1 h2 (.inr rfl) n hx
    -- where it is no Finite, the law says no more
    have easy : ∀ {c m e : Int} {b : Bool}, value_Decode.f a0 q = some (c, b, m, e, 0) → c ≠ 2 → ∃ k, caliperlaw08_RoundWithin.f k a0 n l t v = some true := by
      intro c m e b hd hc
      refine ⟨K + Kq + 1, ?_⟩
      have r0 := hK (K + Kq + 1) (by omega)
      have r1 := hKq (K + Kq + 1) (by omega)
      simp only at r0 r1
      have e2 : (c != 2) = true := bne_iff_ne.2 hc
      simp only [caliperlaw08_RoundWithin.f, shown_T, r0, r1, hd, Option.bind_some, if_true, e2, caliperlaw08_RoundWithin.j0]
    have main : ¬ (a0 = 11 ∧ (n = true ∨ l' = [])) → ((wt a0 (mag l' t' v') (mostK a0 n) = false ∧ q = (patN a0 n (mostK a0 n) : Int) ∧ (ft a0.toNat 0 = 1 ∨ (ft a0.toNat 5 = 0 ∧ ft a0.toNat 6 = 0))) ∨ ∃ a, Least a0 (mag l' t' v') (mostK a0 n) a ∧ q = (patN a0 n (told (ft a0.toNat 0) l' a) : Int)) → ∃ k, caliperlaw08_RoundWithin.f k a0 n l t v = some true := by
      intro hs hq
      have hn : ¬ (n = true ∧ a0 = 11) := fun h => hs ⟨h.2, .inl h.1⟩
      obtain ⟨key, rfl, hkey, hlim⟩ := lim_of h1 h2 hx hs hq
      obtain ⟨b, m, e, hd, hb⟩ := decode_pat h1 h2 hkey hn
      by_cases h0 : key = 0 ∧ ¬ a0 = 11
      · rw [if_pos h0] at hd
        exact easy hd (by decide)
      · rw [if_neg h0] at hd
        have h0' : ¬ key = 0 ∨ a0 = 11 := by
          by_cases hk0 : key = 0
          · exact .inr (Classical.byContradiction fun h => h0 ⟨hk0, h⟩)
          · exact .inl hk0
        have hne : ¬ (n = true ∧ ¬ ft a0.toNat 0 = 2 ∧ key = 0) := fun h => h0'.elim (fun h3 => h3 h.2.2) (fun h3 => hn ⟨h.1, h3⟩)
        rw [if_neg hne] at hb
        subst hb
        obtain ⟨i1, i2, i3, i4⟩ := hlim h0'
        obtain ⟨m1, m2, _⟩ := most_spec h1 h2 b hn
        have h64 := topK_lt h1 h2
        have hkt : key ≤ topK a0 := by omega
        -- the two limits
        have hlo : ∃ (lb : Bool) (lr : List Int) (le lf : Int), (if fst a0 ≤ key then round_behind.f a0 ((key - 1 : Nat) : Int) else some (false, [], 0, 0)) = some (lb, lr, le, lf) ∧ Rt lr le lf ∧ mag lr le lf ≤ mag l' t' v' ∧ (mag lr le lf = mag l' t' v' → key % 2 = 0) := by
          by_cases hf : fst a0 ≤ key
          · obtain ⟨r, e', r1, r2, r3, _⟩ := behind_spec h1 h2 (k := key - 1) (by omega)
            rw [if_pos hf, r1]
            exact ⟨_, r, e', 0, rfl, r2, by rw [r3]; exact (i2 hf).1, by rw [r3]; exact (i2 hf).2⟩
          · rw [if_neg hf]
            have e0 := mag_nil 0 0
            exact ⟨_, [], 0, 0, rfl, ⟨Ws.nil, fun x h => by simp at h, by decide, by decide, by decide⟩, by omega, by omega⟩
        have hhi : ∃ (lb : Bool) (lr : List Int) (le lf : Int), (if hiSet a0 b key then round_behind.f a0 (key : Int) else some (false, [], 0, 0)) = some (lb, lr, le, lf) ∧ Rt lr le lf ∧ (lr = [] ∨ (lr ≠ [] ∧ mag l' t' v' ≤ mag lr le lf ∧ (mag l' t' v' = mag lr le lf → key % 2 = 0))) := by
          by_cases hf : hiSet a0 b key
          · obtain ⟨r, e', r1, r2, r3, r4⟩ := behind_spec h1 h2 (k := key) hkt
            rw [if_pos hf, r1]
            exact ⟨_, r, e', 0, rfl, r2, .inr ⟨r4, by rw [r3]; exact (i3 hf).1, by rw [r3]; exact (i3 hf).2⟩⟩
          · rw [if_neg hf]
            exact ⟨_, [], 0, 0, rfl, ⟨Ws.nil, fun x h => by simp at h, by decide, by decide, by decide⟩, .inl rfl⟩
        obtain ⟨lb, lr, le, lf, l1, l2, l3, l4⟩ := hlo
        obtain ⟨hb', hr, he, hf, g1, g2, g3⟩ := hhi
        have hev : (Go.bits .and .u64 (key : Int) 1 == 0) = decide (key % 2 = 0) := by
          have := u64_and_nat key 1 (by omega) (by decide)
          rw [Nat.and_one_is_mod] at this
          show (Go.bits .and .u64 (key : Int) ((1 : Nat) : Int) == 0) = _
          rw [this]
          rcases Nat.mod_two_eq_zero_or_one key with h | h <;> rw [h] <;> rfl
        have hor : (Go.bits .or .u64 (ft a0.toNat 5) (ft a0.toNat 6) = 0) ↔ (ft a0.toNat 5 = 0 ∧ ft a0.toNat 6 = 0) := by
          obtain ⟨z1, z2⟩ := nan_nat h1 h2
          have z3 : 0 ≤ ft a0.toNat 5 ∧ ft a0.toNat 5 < 18446744073709551616 := by
            obtain rfl | rfl | rfl | rfl | rfl | rfl | rfl | rfl | rfl | rfl | rfl | rfl | rfl | rfl : a0 = 1 ∨ a0 = 2 ∨ a0 = 3 ∨ a0 = 4 ∨ a0 = 5 ∨ a0 = 6 ∨ a0 = 7 ∨ a0 = 8 ∨ a0 = 9 ∨ a0 = 10 ∨ a0 = 11 ∨ a0 = 12 ∨ a0 = 13 ∨ a0 = 14 := by omega
            all_goals decide +kernel
          rw [u64_or _ _ z3.1 z3.2 z1 z2]
          constructor
          · intro h
            have := Nat.or_eq_zero_iff.1 (Int.natCast_eq_zero.1 h)
            omega
          · rintro ⟨h3, h4⟩
            rw [h3, h4]
            rfl
        have hL : round_Limits.f a0 (patN a0 b key : Int) = some (lb, lr, le, lf, hb', hr, he, hf, decide (key % 2 = 0), 0) := by
          unfold round_Limits.f
          rw [key_pat' h1 h2 hkey hn h0', Option.bind_some]
          simp only [if_true, forms_ok h1 h2, Option.bind_some, m1]
          have c1 : ¬ ((key : Int) = 0 ∧ ¬ ft a0.toNat 0 = 4) := fun h => h0'.elim (fun h3 => h3 (by omega)) (fun h3 => h.2 (f7 h3))
          rw [if_neg c1]
          have e1 : (if (if ft a0.toNat 0 = 1 then (2 : Int) else 1) ≤ (key : Int) then round_behind.f a0 (IntKind.u64.wrap ((key : Int) - 1)) else some (false, [], 0, 0)) = some (lb, lr, le, lf) := by
            rw [← l1]
            have ef : (if ft a0.toNat 0 = 1 then (2 : Int) else 1) = (fst a0 : Int) := by unfold fst; split <;> rfl
            rw [ef]
            by_cases hf' : fst a0 ≤ key
            · have h1f : 1 ≤ fst a0 := by unfold fst; split <;> omega
              have hwr : IntKind.u64.wrap ((key : Int) - 1) = ((key - 1 : Nat) : Int) := by rw [wu64 (by omega) (by omega)]; omega
              rw [if_pos hf', if_pos (by clear hwr; omega), hwr]
            · rw [if_neg hf', if_neg (by omega)]
          have e2 : (if (key : Int) < (mostK a0 b : Int) ∨ (¬ ft a0.toNat 0 = 1 ∧ ¬ Go.bits .or .u64 (ft a0.toNat 5) (ft a0.toNat 6) = 0) then round_behind.f a0 (key : Int) else some (false, [], 0, 0)) = some (hb', hr, he, hf) := by
            rw [← g1]
            have eh : ((key : Int) < (mostK a0 b : Int) ∨ (¬ ft a0.toNat 0 = 1 ∧ ¬ Go.bits .or .u64 (ft a0.toNat 5) (ft a0.toNat 6) = 0)) ↔ hiSet a0 b key := by
              unfold hiSet
              rw [hor]
              omega
            by_cases hh : hiSet a0 b key
            · rw [if_pos hh, if_pos (eh.2 hh)]
            · rw [if_neg hh, if_neg (fun h => hh (eh.1 h))]
          rw [e1, Option.bind_some, e2, Option.bind_some, hev]
        obtain ⟨K1, hK1⟩ := exact_Cmp_spec (n := b) (m := lb) hx.1 hx.2.1 hx.2.2.1 l2.1 l2.2.1 l2.2.2.1 hx.2.2.2.1 hx.2.2.2.2 l2.2.2.2.1 l2.2.2.2.2
        obtain ⟨K2, hK2⟩ := exact_Cmp_spec (n := b) (m := hb') hx.1 hx.2.1 hx.2.2.1 g2.1 g2.2.1 g2.2.2.1 hx.2.2.2.1 hx.2.2.2.2 g2.2.2.2.1 g2.2.2.2.2
        refine ⟨K + Kq + K1 + K2 + 1, ?_⟩
        have r0 := hK (K + Kq + K1 + K2 + 1) (by omega)
        have r1 := hKq (K + Kq + K1 + K2 + 1) (by omega)
        have r2 := hK1 (K + Kq + K1 + K2) (by omega)
        have r3 := hK2 (K + Kq + K1 + K2) (by omega)
        simp only at r0 r1 r2 r3
        have e22 : ((2 : Int) != 2) = false := rfl
        simp only [caliperlaw08_RoundWithin.f, shown_T, r0, r1, hd, Option.bind_some, if_true, e22, caliperlaw08_RoundWithin.j0, hL, r2, r3, Bool.false_eq_true, if_false, beq_self_eq_true, decide_eq_true_eq]
        generalize mag l' t' v' = X at *
        generalize mag lr le lf = A at *
        generalize mag hr he hf = B at *
        have t1 : sg X A ≥ 0 := by unfold sg; rw [if_neg (by omega)]; split <;> decide
        have t2 : ¬ key % 2 = 0 → sg X A > 0 := fun h => by unfold sg; rw [if_neg (by omega), if_neg (by omega)]; decide
        simp only [t1, if_true]
        rcases g3 with rfl | ⟨g4, g5, g6⟩
        · have hl0 : ¬ ((([] : List Int).length : Int) > 0) := by simp
          have hm1 : (-1 : Int) ≤ 0 := by decide
          have hm2 : (-1 : Int) < 0 := by decide
          rw [if_neg hl0, if_pos hm1]
          by_cases hev' : key % 2 = 0
          · rw [if_pos hev']
          · simp only [hev', if_false, t2 hev', if_true, hm2]
        · have hpos : (hr.length : Int) > 0 := by
            cases hr with
            | nil => exact absurd rfl g4
            | cons x y => simp only [List.length_cons]; omega
          have t3 : sg X B ≤ 0 := by unfold sg; split; decide; rw [if_pos (by omega)]; decide
          have t4 : ¬ key % 2 = 0 → sg X B < 0 := fun h => by unfold sg; rw [if_pos (by omega)]; decide
          rw [if_pos hpos]
          by_cases hev' : key % 2 = 0
          · simp only [t3, hev', if_true]
          · simp only [t3, hev', if_false, t2 hev', t4 hev', if_true]
    rcases hq with ⟨q1, q2, rfl⟩ | ⟨q1, q2⟩
    · subst q1
      exact easy (show value_Decode.f 11 255 = some (4, false, 0, 0, 0) by decide +kernel) (by decide)
    · rcases q2 with ⟨q3, rfl⟩ | ⟨a, q3, rfl⟩
      · have hn : ¬ (n = true ∧ a0 = 11) := fun h => q1 ⟨h.2, .inl h.1⟩
        by_cases hk : ft a0.toNat 0 = 1 ∨ (ft a0.toNat 5 = 0 ∧ ft a0.toNat 6 = 0)
        · refine main q1 (.inl ⟨q3, ?_, hk⟩)
          unfold largeN
          rw [if_pos (.inr hk)]
        · have hf := large_fin h1 h2 hn
          obtain ⟨c, b, m, e, hd, _⟩ := large_decode h1 h2 (mode := 2) (.inr rfl) hn
          unfold okFin at hf
          rw [if_neg hk, hd] at hf
          exact easy hd (bne_iff_ne.1 hf)
      · exact main q1 (.inr ⟨a, q3, rfl⟩)
  · refine ⟨K + 1, ?_⟩
    have r0 := hK (K + 1) (by omega)
    simp only at r0
    simp only [caliperlaw08_RoundWithin.f, shown_T, r0, round_Round_bad hid, decode_bad hid, Option.bind_some, caliperlaw08_RoundWithin.j0]
    rfl
end Go.Proofs.YtmcodbgbjjldnaaDoor.Pr
