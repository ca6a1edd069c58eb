/- The plain laws of trans.Turn and trans.Just. -/
import Derived.Test.YtnbkjlebphmpnaaDoorTurnA
import Derived.Test.YtnbkjlebphmpnaaDoorPrx7
import Derived.Test.YtnbkjlebphmpnaaDoorPrx8
set_option linter.unusedVariables false
set_option linter.unusedSimpArgs false
namespace Go.Proofs.YtnbkjlebphmpnaaDoor.Pr
open Go.RowKit Go.Proofs.YtnbkjlebphmpnaaDoorW.PrintWords Go.Proofs.YtnbkjlebphmpnaaDoorW.PrintLast Go.Proofs.YtnbkjlebphmpnaaDoorW.PrintMore

theorem shown14 : Ev (fun k => caliperlaw14_shown.f k) true := Ev.mono (k0 := 400) (fun k => caliperlaw14_shown.mono k) (by decide +kernel)
theorem Ev.uniq {α : Type} {F : Nat → Option α} {r s : α} (h : Ev F r) (h' : Ev F s) : r = s := by
  obtain ⟨K, h⟩ := h
  obtain ⟨K', h'⟩ := h'
  have a := h (max K K') (by omega)
  have b := h' (max K K') (by omega)
  rw [a] at b
  exact Option.some.inj b

/-- What a pattern means is a value that can be turned. -/
def VOk (c : Int) (b : Bool) (m e : Int) : Prop := c = 4 ∨ c = 3 ∨ ((c = 1 ∨ c = 2) ∧ ∃ l t, exact_Of.f c b m e = some (b, l, t, 0, true) ∧ Rt l t 0)
theorem cls_range {id : Int} (h1 : 1 ≤ id) (h2 : id ≤ 14) (p : Nat) : clsN id p = 1 ∨ clsN id p = 2 ∨ clsN id p = 3 ∨ clsN id p = 4 := by
  unfold clsN classF
  (repeat' split) <;> simp
theorem exact_Of_of {m : Nat} (h1 : m < 18446744073709551616) {e : Int} (he : -5000 ≤ e ∧ e ≤ 5000) (n : Bool) : ∃ l, exact_Of.f 2 n (m : Int) e = some (n, l, e, 0, true) ∧ Ws l ∧ Tr l ∧ l.length ≤ 1 ∧ val l = m := by
  obtain ⟨r, a1, a2, a3, a4, a5⟩ := nat_Of_spec (x := (m : Int)) (by omega) (by omega)
  refine ⟨r, ?_, a3, a4, a5, a2⟩
  unfold exact_Of.f
  rw [if_neg (by decide), if_pos rfl, exact_in_ok he]
  simp only [a1, Option.bind_some, if_true]
theorem mag_of {m : Nat} {e : Int} {l : List Int} (h : val l = m) : mag l e 0 = bmag m e := by
  unfold mag bmag bval
  rw [h, Int.natCast_mul, ← cast_pow]
  rfl
/-- Of a pattern that is a number: what it means, and that Round of this is it. -/
theorem num_pat {id mode : Int} (h1 : 1 ≤ id) (h2 : id ≤ 14) (hmode : mode = 1 ∨ mode = 2) {p : Nat} (hp : p < 2 ^ wid id) (hc : clsN id p = 1 ∨ clsN id p = 2) :
    ∃ (b : Bool) (m e : Int) (l : List Int) (t : Int), value_Decode.f id (p : Int) = some (clsN id p, b, m, e, 0) ∧ exact_Of.f (clsN id p) b m e = some (b, l, t, 0, true) ∧ Rt l t 0 ∧ Ev (fun f => round_Round.f f id mode b l t 0) ((p : Int), 0) ∧
      (clsN id p = 2 → ∃ m' : Nat, m = m' ∧ mag l t 0 = bmag m' e ∧ l ≠ [] ∧ Least id (bmag m' e) (mostK id b) (partsN id p).2) := by
  obtain ⟨c1, c2, c3, c4⟩ := cls_num h1 h2 hp hc
  obtain ⟨f1, f2, f3, f4, f5, f6, f7, f8, f9, f10, f11, f12⟩ := form_facts h1 h2
  obtain ⟨_, m2, _⟩ := most_spec h1 h2 _ c2
  have hd := decode_spec h1 h2 hp
  generalize (partsN id p).1 = b at *
  generalize (partsN id p).2 = key at *
  have fin : ∀ {l : List Int} {t : Int}, Rt l t 0 → (id = 11 → l ≠ []) → (key = 0 → ft id.toNat 0 = 1 → l = []) → Least id (mag l t 0) (mostK id b) key → Ev (fun f => round_Round.f f id mode b l t 0) ((p : Int), 0) := by
    intro l t hx hne hz hL
    obtain ⟨q, hq, hr⟩ := round_Round_spec h1 h2 hmode b hx
    rcases hr with ⟨r1, r2, _⟩ | ⟨_, r2⟩
    · exfalso
      rcases r2 with r2 | r2
      · exact c2 ⟨r2, r1⟩
      · exact hne r1 r2
    · rcases r2 with ⟨r3, _⟩ | ⟨a, r3, rfl⟩
      · rw [wt_mono h1 h2 hL.le m2 hL.yes] at r3
        cases r3
      · obtain rfl := hL.uniq r3
        have ht : told (ft id.toNat 0) l key = key := by
          unfold told
          split
          · rename_i h
            exact absurd (hz h.2.1 h.1) h.2.2
          · rfl
        rw [ht, c3] at hq
        exact hq
  by_cases h1' : clsN id p = 1
  · obtain ⟨k0, k1⟩ := c4.1 h1'
    subst k0
    have hx : Rt [] 0 0 := ⟨Ws.nil, fun x h => by simp at h, by decide, by decide, by decide⟩
    refine ⟨b, 0, 0, [], 0, ?_, ?_, hx, fin hx (fun h => absurd h k1) (fun _ _ => rfl) ?_, fun h => ?_⟩
    · rw [hd, h1', if_neg (by decide), if_pos rfl]
    · rw [h1']
      rfl
    · rw [mag_nil]
      exact zero_least h1 h2 _
    · rw [h1'] at h
      exact absurd h (by decide)
  · have h2' := hc.resolve_left h1'
    have h0 : 0 < key ∨ id = 11 := by
      by_cases hk : key = 0
      · exact .inr (Classical.byContradiction fun h => h1' (c4.2 ⟨hk, h⟩))
      · exact .inl (by omega)
    obtain ⟨m, e, a1, a2⟩ := at_bnd h1 h2 (k := key) (by omega) h0
    obtain ⟨l, l1, l2, l3, l4, l5⟩ := exact_Of_of a1.2.2.1 a1.2.2.2 b
    have hx : Rt l e 0 := ⟨l2, l3, by omega, a1.2.2.2, by decide⟩
    have hne : l ≠ [] := by
      rintro rfl
      have := a1.2.1
      simp only [val] at l5
      omega
    have hL := a2 _ c1 m2
    refine ⟨b, m, e, l, e, ?_, ?_, hx, fin hx (fun _ => hne) (fun hk ht => ?_) ?_, fun _ => ⟨m, rfl, mag_of l5, hne, hL⟩⟩
    · rw [hd, h2', if_pos rfl, a1.1]
      rfl
    · rw [h2']
      exact l1
    · have := h0.resolve_left (by omega)
      have := f7 this
      omega
    · rw [mag_of l5]
      exact hL
theorem decode_cases (id : Int) {p : Nat} (hp : p < 18446744073709551616) :
    (∃ er, er ≠ 0 ∧ value_Decode.f id (p : Int) = some (0, false, 0, 0, er)) ∨
    (1 ≤ id ∧ id ≤ 14 ∧ p < 2 ^ wid id ∧ ∃ c b m e, value_Decode.f id (p : Int) = some (c, b, m, e, 0) ∧ VOk c b m e ∧ c = clsN id p) := by
  by_cases hid : 1 ≤ id ∧ id ≤ 14
  · obtain ⟨h1, h2⟩ := hid
    by_cases hw : p < 2 ^ wid id
    · right
      refine ⟨h1, h2, hw, ?_⟩
      by_cases hc : clsN id p = 1 ∨ clsN id p = 2
      · obtain ⟨b, m, e, l, t, d1, d2, hx, _, _⟩ := num_pat h1 h2 (mode := 1) (.inl rfl) hw hc
        exact ⟨_, b, m, e, d1, .inr (.inr ⟨hc, l, t, d2, hx⟩), rfl⟩
      · have hd := decode_spec h1 h2 hw
        rw [if_neg (fun h => hc (.inr h)), if_neg (fun h => hc (.inl h))] at hd
        by_cases h3 : clsN id p = 3
        · rw [if_pos h3] at hd
          exact ⟨_, _, _, _, hd, .inr (.inl rfl), h3.symm⟩
        · rw [if_neg h3] at hd
          have h4 : clsN id p = 4 := by have := cls_range h1 h2 p; omega
          exact ⟨_, _, _, _, hd, .inl h4, rfl⟩
    · exact .inl ⟨1, by decide, decode_big h1 h2 hp hw⟩
  · exact .inl ⟨3, by decide, decode_bad hid _⟩

theorem turner_num {to_ mode c : Int} {b : Bool} {m e : Int} {l : List Int} {t : Int} (hc : c = 1 ∨ c = 2) (hx : exact_Of.f c b m e = some (b, l, t, 0, true)) (q1 q2 q3 q4 q5 q6 q7 : Int) (k : Nat) :
    trans_turner_turn.f k q1 q2 q3 q4 q5 q6 q7 to_ mode c b m e = (round_Round.f k to_ mode b l t 0).bind fun r => some r.1 := by
  unfold trans_turner_turn.f
  rw [if_neg (by omega), if_neg (by omega), hx]
  rfl
theorem turner_spec {to_ mode : Int} (h1 : 1 ≤ to_) (h2 : to_ ≤ 14) (hm : mode = 1 ∨ mode = 2) {c : Int} {b : Bool} {m e : Int} (hv : VOk c b m e) :
    ∃ q, Ev (fun k => trans_turner_turn.f k (ft to_.toNat 0) (ft to_.toNat 1) (ft to_.toNat 2) (ft to_.toNat 3) (ft to_.toNat 4) (ft to_.toNat 5) (ft to_.toNat 6) to_ mode c b m e) q ∧ VTo to_ mode c b m e q := by
  obtain ⟨f1, f2, f3, f4, f5, f6, f7, f8, f9, f10, f11, f12⟩ := form_facts h1 h2
  rcases hv with rfl | rfl | ⟨hc, l, t, hx, hr⟩
  · refine ⟨ft to_.toNat 6, Ev.of fun k => ?_, .inl ⟨rfl, rfl⟩⟩
    unfold trans_turner_turn.f
    rw [if_pos rfl]
  · by_cases hk : ft to_.toNat 0 = 1 ∨ (ft to_.toNat 0 = 4 ∧ b = true)
    · refine ⟨ft to_.toNat 6, Ev.succ (Ev.of fun k => ?_), .inr (.inl ⟨rfl, .inl ⟨hk, rfl⟩⟩)⟩
      unfold trans_turner_turn.f
      rw [if_neg (by decide), if_pos rfl]
      by_cases k1 : ft to_.toNat 0 = 1
      · rw [if_pos k1]
        simp only [trans_turner_turn.j0, if_true]
      · obtain ⟨k4, rfl⟩ := hk.resolve_left k1
        rw [if_neg k1, if_pos k4]
        simp only [trans_turner_turn.j0, if_true]
    · refine ⟨largeN to_ mode b, ?_, .inr (.inl ⟨rfl, .inr ⟨hk, rfl⟩⟩)⟩
      have hn : ¬ (b = true ∧ to_ = 11) := fun h => hk (.inr ⟨f7 h.2, h.1⟩)
      obtain ⟨q, hq, hR⟩ := round_Round_spec h1 h2 hm b rt_huge
      have hqe : q = largeN to_ mode b := by
        rcases hR with ⟨r1, r2, _⟩ | ⟨_, ⟨_, r2⟩ | ⟨a, r2, _⟩⟩
        · exfalso
          rcases r2 with r2 | r2
          · exact hn ⟨r2, r1⟩
          · cases r2
        · exact r2
        · exfalso
          obtain ⟨_, m2, _⟩ := most_spec h1 h2 b hn
          have := wt_mono h1 h2 r2.le m2 r2.yes
          rw [huge_wt h1 h2 hn] at this
          cases this
      subst hqe
      refine Ev.succ (Ev.congr (Ev.bind (g := fun _ r => some r.1) hq (Ev.of fun _ => rfl)) fun k => ?_)
      unfold trans_turner_turn.f
      rw [if_neg (by decide), if_pos rfl, if_neg (fun h => hk (.inl h))]
      have e1 : trans_turner_turn.j0 (k + 1) false (ft to_.toNat 0) (ft to_.toNat 1) (ft to_.toNat 2) (ft to_.toNat 3) (ft to_.toNat 4) (ft to_.toNat 5) (ft to_.toNat 6) to_ mode 3 b m e = (round_Round.f k to_ mode b [1] 4000 0).bind fun r => some r.1 := by
        simp only [trans_turner_turn.j0, trans_turner_huge.f]
        rw [if_neg (by decide)]
        cases round_Round.f k to_ mode b [1] 4000 0 <;> rfl
      by_cases k4 : ft to_.toNat 0 = 4
      · have hb : b = false := by
          cases b with
          | false => rfl
          | true => exact absurd (.inr ⟨k4, rfl⟩) hk
        subst hb
        rw [if_pos k4]
        exact e1
      · rw [if_neg k4]
        exact e1
  · obtain ⟨q, hq, hR⟩ := round_Round_spec h1 h2 hm b hr
    exact ⟨q, Ev.congr (Ev.bind (g := fun _ r => some r.1) hq (Ev.of fun _ => rfl)) fun k => turner_num hc hx .., .inr (.inr ⟨hc, l, t, hx, hr, hR⟩)⟩

theorem turn_err {id p er : Int} (he : er ≠ 0) (hd : value_Decode.f id p = some (0, false, 0, 0, er)) (to_ mode : Int) (k : Nat) : trans_Turn.f k id to_ mode p = some (0, er) := by
  unfold trans_Turn.f
  rw [hd, Option.bind_some, if_neg he]
theorem turn_f {id p c : Int} {b : Bool} {m e : Int} (hd : value_Decode.f id p = some (c, b, m, e, 0)) {to_ mode : Int} (h1 : 1 ≤ to_) (h2 : to_ ≤ 14) (hm : mode = 1 ∨ mode = 2) (k : Nat) :
    trans_Turn.f k id to_ mode p = (trans_turner_turn.f k (ft to_.toNat 0) (ft to_.toNat 1) (ft to_.toNat 2) (ft to_.toNat 3) (ft to_.toNat 4) (ft to_.toNat 5) (ft to_.toNat 6) to_ mode c b m e).bind fun q => some (q, 0) := by
  unfold trans_Turn.f
  rw [hd, Option.bind_some, if_pos rfl, forms_ok h1 h2, Option.bind_some, if_pos rfl]
  rcases hm with rfl | rfl
  · rfl
  · rfl
theorem turn_spec {id p c : Int} {b : Bool} {m e : Int} (hd : value_Decode.f id p = some (c, b, m, e, 0)) (hv : VOk c b m e) {to_ mode : Int} (h1 : 1 ≤ to_) (h2 : to_ ≤ 14) (hm : mode = 1 ∨ mode = 2) :
    ∃ q, Ev (fun k => trans_Turn.f k id to_ mode p) (q, 0) ∧ VTo to_ mode c b m e q := by
  obtain ⟨q, hq, hV⟩ := turner_spec h1 h2 hm hv
  exact ⟨q, Ev.congr (Ev.bind (g := fun _ q => some (q, 0)) hq (Ev.of fun _ => rfl)) fun k => turn_f hd h1 h2 hm k, hV⟩
/-- Of a number: Turn is Round of what it means. -/
theorem turn_num {id p c : Int} {b : Bool} {m e : Int} (hd : value_Decode.f id p = some (c, b, m, e, 0)) (hc : c = 1 ∨ c = 2) {l : List Int} {t : Int} (hx : exact_Of.f c b m e = some (b, l, t, 0, true)) {to_ mode : Int} (h1 : 1 ≤ to_) (h2 : to_ ≤ 14) (hm : mode = 1 ∨ mode = 2) {q : Int}
    (hq : Ev (fun f => round_Round.f f to_ mode b l t 0) (q, 0)) : Ev (fun k => trans_Turn.f k id to_ mode p) (q, 0) := by
  refine Ev.congr (Ev.bind (g := fun _ r => some (r.1, 0)) hq (Ev.of fun _ => rfl)) fun k => ?_
  rw [turn_f hd h1 h2 hm, turner_num hc hx]
  cases round_Round.f k to_ mode b l t 0 <;> rfl
end Go.Proofs.YtnbkjlebphmpnaaDoor.Pr
