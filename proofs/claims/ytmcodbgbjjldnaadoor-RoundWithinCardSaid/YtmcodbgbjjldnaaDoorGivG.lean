/- Contracts by hand: value.Decode, value.Key. -/
import Derived.Test.YtmcodbgbjjldnaaDoorGivG0
set_option linter.unusedVariables false
set_option linter.unusedSimpArgs false
namespace Go.Proofs.YtmcodbgbjjldnaaDoor.Pr
open Go.RowKit Go.Proofs.YtmcodbgbjjldnaaDoorW.PrintWords Go.Proofs.YtmcodbgbjjldnaaDoorW.PrintLast Go.Proofs.YtmcodbgbjjldnaaDoorW.PrintMore

theorem fnOf_func {k : Int} (h1 : 1 ≤ k) (h4 : k ≤ 4) : ∃ fn : Fn, fnOf k = .func fn #[] #[] := by
  obtain h | h | h | h : k = 1 ∨ k = 2 ∨ k = 3 ∨ k = 4 := by omega
  all_goals subst h; exact ⟨_, rfl⟩

theorem isSome_setCell_eq (w : World) (p q : Addr) (v : Value) : ((w.setCell p v).cell? q).isSome = (w.cell? q).isSome := by
  by_cases e : p = q
  · subst e
    cases h : w.cell? p with
    | some u => rw [World.cell?_setCell_same w p v h]; rfl
    | none =>
      simp only [World.cell?] at h
      simp only [World.setCell, World.cell?, Array.getElem?_modify, ↓reduceIte]
      cases hh : w.heap[p.block]? with
      | none => rfl
      | some o =>
        cases o with
        | cells c e f =>
          rw [hh] at h
          cases hs : p.spot with
          | some _ => simp [hs]
          | none => simp [hs] at h ⊢; omega
        | _ => rfl
  · rw [World.cell?_setCell_other w p q v e]

def value_Decode.g (p q1 q2 q3 q4 q5 q6 q7 : Int) : Option (Int × Bool × Int × Int × Int) :=
  (partsF q1 q2 q3 q4 q5 q6 q7 p).bind fun s =>
    if classF q1 q5 q6 q7 p s.2 = 2 then (numF q1 q2 q3 q4 0 s.2).bind fun r => some (2, s.1, r.1, r.2, 0)
    else if classF q1 q5 q6 q7 p s.2 = 1 then some (1, s.1, 0, 0, 0)
    else if classF q1 q5 q6 q7 p s.2 = 3 then some (3, s.1, 0, 0, 0)
    else some (classF q1 q5 q6 q7 p s.2, false, 0, 0, 0)
/-- What a pattern means: class, sign, M, E, error. -/
def value_Decode.f (a0 a1 : Int) : Option (Int × Bool × Int × Int × Int) :=
  (forms_Fits.f a0 a1).bind fun e => if e = 0 then (forms_Of.f a0).bind fun q => if 1 ≤ q.1 ∧ q.1 ≤ 4 then value_Decode.g a1 q.1 q.2.1 q.2.2.1 q.2.2.2.1 q.2.2.2.2.1 q.2.2.2.2.2.1 q.2.2.2.2.2.2.1 else none else some (0, false, 0, 0, e)
set_option maxHeartbeats 4000000 in
set_option maxRecDepth 100000 in
theorem value_Decode.calls (a0 a1 : Int) (r1 : Int) (r2 : Bool) (r3 r4 r5 : Int) (w : World) (hG : Glob w) (h : value_Decode.f a0 a1 = some (r1, r2, r3, r4, r5)) :
    Calls Tryd.prog 26 #[.int .i64 a0, .int .u64 a1] w fun e w' => e = .returned (.tuple #[.agg #[.int .i64 r1, .bool r2, .int .u64 r3, .int .i64 r4], .int .i64 r5]) ∧ Below w.heap.size w w' := by
  obtain ⟨e, hx, h⟩ := Option.bind_eq_some_iff.1 h
  have HG := Aside0.mk hG
  have HX := Aside0.mk hx
  clear hG hx
  by_cases c0 : e = 0
  · rw [if_pos c0] at h
    have b0 : (e == 0) = true := beq_iff_eq.2 c0
    have b0' : (e != 0) = false := bne_eq_false_iff_eq.2 c0
    clear c0
    obtain ⟨⟨q1, q2, q3, q4, q5, q6, q7, q8⟩, hf, h⟩ := Option.bind_eq_some_iff.1 h
    replace h : (if 1 ≤ q1 ∧ q1 ≤ 4 then value_Decode.g a1 q1 q2 q3 q4 q5 q6 q7 else none) = some (r1, r2, r3, r4, r5) := h
    have HF := Aside0.mk hf
    clear hf
    by_cases hk : 1 ≤ q1 ∧ q1 ≤ 4
    case neg => rw [if_neg hk] at h; cases h
    rw [if_pos hk] at h
    unfold value_Decode.g at h
    obtain ⟨⟨s1, s2⟩, hp, h⟩ := Option.bind_eq_some_iff.1 h
    have HP := Aside0.mk hp
    clear hp
    obtain ⟨c, hC⟩ : ∃ c, classF q1 q5 q6 q7 a1 s2 = c := ⟨_, rfl⟩
    simp only [hC] at h
    have HC := Aside0.mk hC
    clear hC
    by_cases d2 : c = 2
    · rw [if_pos d2] at h
      have e2 : (c == 2) = true := beq_iff_eq.2 d2
      subst d2
      obtain ⟨⟨m, x⟩, hn, h⟩ := Option.bind_eq_some_iff.1 h
      simp only [Option.some.injEq, Prod.mk.injEq] at h
      obtain ⟨rfl, rfl, rfl, rfl, rfl⟩ := h
      unfold numF at hn
      by_cases k1 : q1 = 1
      · simp only [if_pos k1] at hn
        have HM := Aside0.mk hn
        clear hn
        have HN : Aside0 (fnOf q1 = .func (.func 87) #[] #[]) := ⟨by rw [k1]; rfl⟩
        clear k1 hk
        go_enter Tryd.func26, Tryd.ntmps26
        go_wp2_with (first | (go_at_call 50; (with_reducible refine (forms_Fits.calls a0 a1 _ _ ?hg HX.out).mono ?_); (case hg => exact Glob.below HG.out (below_alloc (Below.refl _ _) _)); rintro e1 w1 ⟨rfl, hb1⟩; have hlt1 : w.heap.size < w1.heap.size := (by have := hb1.size; (try simp at this); omega); have hc1 := fun j => hb1.cell (p := ⟨w.heap.size, j, none⟩) (by first | (simp; done) | (simp; omega) | omega); have hz1 := fun j => hb1.frozen (p := ⟨w.heap.size, j, none⟩) (by first | (simp; done) | (simp; omega) | omega);  have HB1 := Aside0.mk (below_step (below_alloc (Below.refl _ _) _) hb1); clear hb1) | (go_at_call 49; (with_reducible refine (of_func (.func 87) a0 q1 q2 q3 q4 q5 q6 q7 q8 _ ?hg HF.out HN.out).mono ?_); (case hg => exact Glob.below HG.out (by repeat (with_reducible first | exact HB1.out | apply below_alloc | (refine below_set ?_ (Nat.le_refl _)) | apply pw_below_drewN | apply below_drew1))); rintro e2 w2 ⟨rfl, hb2⟩; have hlt2 : w.heap.size < w2.heap.size := (by have := hb2.size; (try simp at this); omega); have hc2 := fun j => hb2.cell (p := ⟨w.heap.size, j, none⟩) (by first | (simp; done) | (simp; omega) | omega); have hz2 := fun j => hb2.frozen (p := ⟨w.heap.size, j, none⟩) (by first | (simp; done) | (simp; omega) | omega);  have HB2 := Aside0.mk (below_step (by repeat (with_reducible first | exact HB1.out | apply below_alloc | (refine below_set ?_ (Nat.le_refl _)) | apply pw_below_drewN | apply below_drew1)) hb2); clear hb2) | (go_at_call 51; (with_reducible refine (parts_func (.func 87) q1 q2 q3 q4 q5 q6 q7 a1 _ s2 _ HP.out).mono ?_); rintro e3 w3 ⟨rfl, hb3⟩; have hlt3 : w.heap.size < w3.heap.size := (by have := hb3.size; (try simp at this); omega); have hc3 := fun j => hb3.cell (p := ⟨w.heap.size, j, none⟩) (by first | (simp; done) | (simp; omega) | omega); have hz3 := fun j => hb3.frozen (p := ⟨w.heap.size, j, none⟩) (by first | (simp; done) | (simp; omega) | omega);  have hcs3 := fun j => hb3.cell (p := ⟨w2.heap.size, j, none⟩) (by first | (simp; done) | (simp; omega) | omega); have hzs3 := fun j => hb3.frozen (p := ⟨w2.heap.size, j, none⟩) (by first | (simp; done) | (simp; omega) | omega); have hlts3 : w2.heap.size < w3.heap.size := (by have := hb3.size; (try simp at this); omega); have HB3 := Aside0.mk (below_step (by repeat (with_reducible first | exact HB2.out | apply below_alloc | (refine below_set ?_ (Nat.le_refl _)) | apply pw_below_drewN | apply below_drew1)) hb3); clear hb3) | (go_at_call 52; (with_reducible refine (class_func (.func 87) q1 q2 q3 q4 q5 q6 q7 a1 s2 _).mono ?_); rw [HC.out]; rintro e4 w4 ⟨rfl, hb4⟩; have hlt4 : w.heap.size < w4.heap.size := (by have := hb4.size; (try simp at this); omega); have hc4 := fun j => hb4.cell (p := ⟨w.heap.size, j, none⟩) (by first | (simp; done) | (simp; omega) | omega); have hz4 := fun j => hb4.frozen (p := ⟨w.heap.size, j, none⟩) (by first | (simp; done) | (simp; omega) | omega);  have hcs4 := fun j => hb4.cell (p := ⟨w2.heap.size, j, none⟩) (by first | (simp; done) | (simp; omega) | omega); have hzs4 := fun j => hb4.frozen (p := ⟨w2.heap.size, j, none⟩) (by first | (simp; done) | (simp; omega) | omega); have hlts4 : w2.heap.size < w4.heap.size := (by have := hb4.size; (try simp at this); omega); have HB4 := Aside0.mk (below_step (by repeat (with_reducible first | exact HB3.out | apply below_alloc | (refine below_set ?_ (Nat.le_refl _)) | apply pw_below_drewN | apply below_drew1)) hb4); clear hb4) | (go_at_call 87; (with_reducible refine (num1 q1 q2 q3 q4 q5 q6 q7 0 _ m x _ ?hg HM.out).mono ?_); (case hg => exact Glob.below HG.out (by repeat (with_reducible first | exact HB4.out | apply below_alloc | (refine below_set ?_ (Nat.le_refl _)) | apply pw_below_drewN | apply below_drew1))); rintro e5 w5 ⟨rfl, hb5⟩; have hlt5 : w.heap.size < w5.heap.size := (by have := hb5.size; (try simp at this); omega); have hc5 := fun j => hb5.cell (p := ⟨w.heap.size, j, none⟩) (by first | (simp; done) | (simp; omega) | omega); have hz5 := fun j => hb5.frozen (p := ⟨w.heap.size, j, none⟩) (by first | (simp; done) | (simp; omega) | omega);  have hcs5 := fun j => hb5.cell (p := ⟨w2.heap.size, j, none⟩) (by first | (simp; done) | (simp; omega) | omega); have hzs5 := fun j => hb5.frozen (p := ⟨w2.heap.size, j, none⟩) (by first | (simp; done) | (simp; omega) | omega); have hlts5 : w2.heap.size < w5.heap.size := (by have := hb5.size; (try simp at this); omega); have HB5 := Aside0.mk (below_step (by repeat (with_reducible first | exact HB4.out | apply below_alloc | (refine below_set ?_ (Nat.le_refl _)) | apply pw_below_drewN | apply below_drew1)) hb5); clear hb5))
        refine bodyPost_ret (v := .tuple #[.agg #[.int .i64 2, .bool s1, .int .u64 m, .int .i64 x], .int .i64 0]) (by simp (maxDischargeDepth := 5) [↓isSome_setCell_eq, results, Tryd.results26, go_sem, hc1, hlt1, hc2, hlt2, hc3, hlt3, hc4, hlt4, hc5, hlt5]) rfl ⟨rfl, ?_⟩
        repeat (with_reducible first | exact HB5.out | apply below_alloc | (refine below_set ?_ (Nat.le_refl _)) | apply pw_below_drewN | apply below_drew1)
      simp only [if_neg k1] at hn
      by_cases k2 : q1 = 2
      · simp only [if_pos k2] at hn
        obtain ⟨⟨m', x', r3⟩, hn', h'⟩ := Option.bind_eq_some_iff.1 hn
        simp only [Option.some.injEq, Prod.mk.injEq] at h'
        obtain ⟨rfl, rfl⟩ := h'
        clear hn
        have HM := Aside0.mk hn'
        clear hn'
        have HN : Aside0 (fnOf q1 = .func (.func 89) #[] #[]) := ⟨by rw [k2]; rfl⟩
        clear k1 k2 hk
        go_enter Tryd.func26, Tryd.ntmps26
        go_wp2_with (first | (go_at_call 50; (with_reducible refine (forms_Fits.calls a0 a1 _ _ ?hg HX.out).mono ?_); (case hg => exact Glob.below HG.out (below_alloc (Below.refl _ _) _)); rintro e1 w1 ⟨rfl, hb1⟩; have hlt1 : w.heap.size < w1.heap.size := (by have := hb1.size; (try simp at this); omega); have hc1 := fun j => hb1.cell (p := ⟨w.heap.size, j, none⟩) (by first | (simp; done) | (simp; omega) | omega); have hz1 := fun j => hb1.frozen (p := ⟨w.heap.size, j, none⟩) (by first | (simp; done) | (simp; omega) | omega);  have HB1 := Aside0.mk (below_step (below_alloc (Below.refl _ _) _) hb1); clear hb1) | (go_at_call 49; (with_reducible refine (of_func (.func 89) a0 q1 q2 q3 q4 q5 q6 q7 q8 _ ?hg HF.out HN.out).mono ?_); (case hg => exact Glob.below HG.out (by repeat (with_reducible first | exact HB1.out | apply below_alloc | (refine below_set ?_ (Nat.le_refl _)) | apply pw_below_drewN | apply below_drew1))); rintro e2 w2 ⟨rfl, hb2⟩; have hlt2 : w.heap.size < w2.heap.size := (by have := hb2.size; (try simp at this); omega); have hc2 := fun j => hb2.cell (p := ⟨w.heap.size, j, none⟩) (by first | (simp; done) | (simp; omega) | omega); have hz2 := fun j => hb2.frozen (p := ⟨w.heap.size, j, none⟩) (by first | (simp; done) | (simp; omega) | omega);  have HB2 := Aside0.mk (below_step (by repeat (with_reducible first | exact HB1.out | apply below_alloc | (refine below_set ?_ (Nat.le_refl _)) | apply pw_below_drewN | apply below_drew1)) hb2); clear hb2) | (go_at_call 51; (with_reducible refine (parts_func (.func 89) q1 q2 q3 q4 q5 q6 q7 a1 _ s2 _ HP.out).mono ?_); rintro e3 w3 ⟨rfl, hb3⟩; have hlt3 : w.heap.size < w3.heap.size := (by have := hb3.size; (try simp at this); omega); have hc3 := fun j => hb3.cell (p := ⟨w.heap.size, j, none⟩) (by first | (simp; done) | (simp; omega) | omega); have hz3 := fun j => hb3.frozen (p := ⟨w.heap.size, j, none⟩) (by first | (simp; done) | (simp; omega) | omega);  have hcs3 := fun j => hb3.cell (p := ⟨w2.heap.size, j, none⟩) (by first | (simp; done) | (simp; omega) | omega); have hzs3 := fun j => hb3.frozen (p := ⟨w2.heap.size, j, none⟩) (by first | (simp; done) | (simp; omega) | omega); have hlts3 : w2.heap.size < w3.heap.size := (by have := hb3.size; (try simp at this); omega); have HB3 := Aside0.mk (below_step (by repeat (with_reducible first | exact HB2.out | apply below_alloc | (refine below_set ?_ (Nat.le_refl _)) | apply pw_below_drewN | apply below_drew1)) hb3); clear hb3) | (go_at_call 52; (with_reducible refine (class_func (.func 89) q1 q2 q3 q4 q5 q6 q7 a1 s2 _).mono ?_); rw [HC.out]; rintro e4 w4 ⟨rfl, hb4⟩; have hlt4 : w.heap.size < w4.heap.size := (by have := hb4.size; (try simp at this); omega); have hc4 := fun j => hb4.cell (p := ⟨w.heap.size, j, none⟩) (by first | (simp; done) | (simp; omega) | omega); have hz4 := fun j => hb4.frozen (p := ⟨w.heap.size, j, none⟩) (by first | (simp; done) | (simp; omega) | omega);  have hcs4 := fun j => hb4.cell (p := ⟨w2.heap.size, j, none⟩) (by first | (simp; done) | (simp; omega) | omega); have hzs4 := fun j => hb4.frozen (p := ⟨w2.heap.size, j, none⟩) (by first | (simp; done) | (simp; omega) | omega); have hlts4 : w2.heap.size < w4.heap.size := (by have := hb4.size; (try simp at this); omega); have HB4 := Aside0.mk (below_step (by repeat (with_reducible first | exact HB3.out | apply below_alloc | (refine below_set ?_ (Nat.le_refl _)) | apply pw_below_drewN | apply below_drew1)) hb4); clear hb4) | (go_at_call 89; (with_reducible refine (num2 q1 q2 q3 q4 q5 q6 q7 0 _ m' x' r3 _ ?hg HM.out).mono ?_); (case hg => exact Glob.below HG.out (by repeat (with_reducible first | exact HB4.out | apply below_alloc | (refine below_set ?_ (Nat.le_refl _)) | apply pw_below_drewN | apply below_drew1))); rintro e5 w5 ⟨rfl, hb5⟩; have hlt5 : w.heap.size < w5.heap.size := (by have := hb5.size; (try simp at this); omega); have hc5 := fun j => hb5.cell (p := ⟨w.heap.size, j, none⟩) (by first | (simp; done) | (simp; omega) | omega); have hz5 := fun j => hb5.frozen (p := ⟨w.heap.size, j, none⟩) (by first | (simp; done) | (simp; omega) | omega);  have hcs5 := fun j => hb5.cell (p := ⟨w2.heap.size, j, none⟩) (by first | (simp; done) | (simp; omega) | omega); have hzs5 := fun j => hb5.frozen (p := ⟨w2.heap.size, j, none⟩) (by first | (simp; done) | (simp; omega) | omega); have hlts5 : w2.heap.size < w5.heap.size := (by have := hb5.size; (try simp at this); omega); have HB5 := Aside0.mk (below_step (by repeat (with_reducible first | exact HB4.out | apply below_alloc | (refine below_set ?_ (Nat.le_refl _)) | apply pw_below_drewN | apply below_drew1)) hb5); clear hb5))
        refine bodyPost_ret (v := .tuple #[.agg #[.int .i64 2, .bool s1, .int .u64 m', .int .i64 x'], .int .i64 0]) (by simp (maxDischargeDepth := 5) [↓isSome_setCell_eq, results, Tryd.results26, go_sem, hc1, hlt1, hc2, hlt2, hc3, hlt3, hc4, hlt4, hc5, hlt5]) rfl ⟨rfl, ?_⟩
        repeat (with_reducible first | exact HB5.out | apply below_alloc | (refine below_set ?_ (Nat.le_refl _)) | apply pw_below_drewN | apply below_drew1)
      simp only [if_neg k2] at hn
      by_cases k3 : q1 = 3
      · simp only [if_pos k3] at hn
        have HM := Aside0.mk hn
        clear hn
        have HN : Aside0 (fnOf q1 = .func (.func 91) #[] #[]) := ⟨by rw [k3]; rfl⟩
        clear k1 k2 k3 hk
        go_enter Tryd.func26, Tryd.ntmps26
        go_wp2_with (first | (go_at_call 50; (with_reducible refine (forms_Fits.calls a0 a1 _ _ ?hg HX.out).mono ?_); (case hg => exact Glob.below HG.out (below_alloc (Below.refl _ _) _)); rintro e1 w1 ⟨rfl, hb1⟩; have hlt1 : w.heap.size < w1.heap.size := (by have := hb1.size; (try simp at this); omega); have hc1 := fun j => hb1.cell (p := ⟨w.heap.size, j, none⟩) (by first | (simp; done) | (simp; omega) | omega); have hz1 := fun j => hb1.frozen (p := ⟨w.heap.size, j, none⟩) (by first | (simp; done) | (simp; omega) | omega);  have HB1 := Aside0.mk (below_step (below_alloc (Below.refl _ _) _) hb1); clear hb1) | (go_at_call 49; (with_reducible refine (of_func (.func 91) a0 q1 q2 q3 q4 q5 q6 q7 q8 _ ?hg HF.out HN.out).mono ?_); (case hg => exact Glob.below HG.out (by repeat (with_reducible first | exact HB1.out | apply below_alloc | (refine below_set ?_ (Nat.le_refl _)) | apply pw_below_drewN | apply below_drew1))); rintro e2 w2 ⟨rfl, hb2⟩; have hlt2 : w.heap.size < w2.heap.size := (by have := hb2.size; (try simp at this); omega); have hc2 := fun j => hb2.cell (p := ⟨w.heap.size, j, none⟩) (by first | (simp; done) | (simp; omega) | omega); have hz2 := fun j => hb2.frozen (p := ⟨w.heap.size, j, none⟩) (by first | (simp; done) | (simp; omega) | omega);  have HB2 := Aside0.mk (below_step (by repeat (with_reducible first | exact HB1.out | apply below_alloc | (refine below_set ?_ (Nat.le_refl _)) | apply pw_below_drewN | apply below_drew1)) hb2); clear hb2) | (go_at_call 51; (with_reducible refine (parts_func (.func 91) q1 q2 q3 q4 q5 q6 q7 a1 _ s2 _ HP.out).mono ?_); rintro e3 w3 ⟨rfl, hb3⟩; have hlt3 : w.heap.size < w3.heap.size := (by have := hb3.size; (try simp at this); omega); have hc3 := fun j => hb3.cell (p := ⟨w.heap.size, j, none⟩) (by first | (simp; done) | (simp; omega) | omega); have hz3 := fun j => hb3.frozen (p := ⟨w.heap.size, j, none⟩) (by first | (simp; done) | (simp; omega) | omega);  have hcs3 := fun j => hb3.cell (p := ⟨w2.heap.size, j, none⟩) (by first | (simp; done) | (simp; omega) | omega); have hzs3 := fun j => hb3.frozen (p := ⟨w2.heap.size, j, none⟩) (by first | (simp; done) | (simp; omega) | omega); have hlts3 : w2.heap.size < w3.heap.size := (by have := hb3.size; (try simp at this); omega); have HB3 := Aside0.mk (below_step (by repeat (with_reducible first | exact HB2.out | apply below_alloc | (refine below_set ?_ (Nat.le_refl _)) | apply pw_below_drewN | apply below_drew1)) hb3); clear hb3) | (go_at_call 52; (with_reducible refine (class_func (.func 91) q1 q2 q3 q4 q5 q6 q7 a1 s2 _).mono ?_); rw [HC.out]; rintro e4 w4 ⟨rfl, hb4⟩; have hlt4 : w.heap.size < w4.heap.size := (by have := hb4.size; (try simp at this); omega); have hc4 := fun j => hb4.cell (p := ⟨w.heap.size, j, none⟩) (by first | (simp; done) | (simp; omega) | omega); have hz4 := fun j => hb4.frozen (p := ⟨w.heap.size, j, none⟩) (by first | (simp; done) | (simp; omega) | omega);  have hcs4 := fun j => hb4.cell (p := ⟨w2.heap.size, j, none⟩) (by first | (simp; done) | (simp; omega) | omega); have hzs4 := fun j => hb4.frozen (p := ⟨w2.heap.size, j, none⟩) (by first | (simp; done) | (simp; omega) | omega); have hlts4 : w2.heap.size < w4.heap.size := (by have := hb4.size; (try simp at this); omega); have HB4 := Aside0.mk (below_step (by repeat (with_reducible first | exact HB3.out | apply below_alloc | (refine below_set ?_ (Nat.le_refl _)) | apply pw_below_drewN | apply below_drew1)) hb4); clear hb4) | (go_at_call 91; (with_reducible refine (num3 q1 q2 q3 q4 q5 q6 q7 0 _ m x _ ?hg HM.out).mono ?_); (case hg => exact Glob.below HG.out (by repeat (with_reducible first | exact HB4.out | apply below_alloc | (refine below_set ?_ (Nat.le_refl _)) | apply pw_below_drewN | apply below_drew1))); rintro e5 w5 ⟨rfl, hb5⟩; have hlt5 : w.heap.size < w5.heap.size := (by have := hb5.size; (try simp at this); omega); have hc5 := fun j => hb5.cell (p := ⟨w.heap.size, j, none⟩) (by first | (simp; done) | (simp; omega) | omega); have hz5 := fun j => hb5.frozen (p := ⟨w.heap.size, j, none⟩) (by first | (simp; done) | (simp; omega) | omega);  have hcs5 := fun j => hb5.cell (p := ⟨w2.heap.size, j, none⟩) (by first | (simp; done) | (simp; omega) | omega); have hzs5 := fun j => hb5.frozen (p := ⟨w2.heap.size, j, none⟩) (by first | (simp; done) | (simp; omega) | omega); have hlts5 : w2.heap.size < w5.heap.size := (by have := hb5.size; (try simp at this); omega); have HB5 := Aside0.mk (below_step (by repeat (with_reducible first | exact HB4.out | apply below_alloc | (refine below_set ?_ (Nat.le_refl _)) | apply pw_below_drewN | apply below_drew1)) hb5); clear hb5))
        refine bodyPost_ret (v := .tuple #[.agg #[.int .i64 2, .bool s1, .int .u64 m, .int .i64 x], .int .i64 0]) (by simp (maxDischargeDepth := 5) [↓isSome_setCell_eq, results, Tryd.results26, go_sem, hc1, hlt1, hc2, hlt2, hc3, hlt3, hc4, hlt4, hc5, hlt5]) rfl ⟨rfl, ?_⟩
        repeat (with_reducible first | exact HB5.out | apply below_alloc | (refine below_set ?_ (Nat.le_refl _)) | apply pw_below_drewN | apply below_drew1)
      simp only [if_neg k3] at hn
      by_cases k4 : q1 = 4
      · simp only [if_pos k4] at hn
        simp only [if_true, Option.some.injEq, Prod.mk.injEq] at hn
        obtain ⟨rfl, rfl⟩ := hn
        have HN : Aside0 (fnOf q1 = .func (.func 93) #[] #[]) := ⟨by rw [k4]; rfl⟩
        clear k1 k2 k3 k4 hk
        go_enter Tryd.func26, Tryd.ntmps26
        go_wp2_with (first | (go_at_call 50; (with_reducible refine (forms_Fits.calls a0 a1 _ _ ?hg HX.out).mono ?_); (case hg => exact Glob.below HG.out (below_alloc (Below.refl _ _) _)); rintro e1 w1 ⟨rfl, hb1⟩; have hlt1 : w.heap.size < w1.heap.size := (by have := hb1.size; (try simp at this); omega); have hc1 := fun j => hb1.cell (p := ⟨w.heap.size, j, none⟩) (by first | (simp; done) | (simp; omega) | omega); have hz1 := fun j => hb1.frozen (p := ⟨w.heap.size, j, none⟩) (by first | (simp; done) | (simp; omega) | omega);  have HB1 := Aside0.mk (below_step (below_alloc (Below.refl _ _) _) hb1); clear hb1) | (go_at_call 49; (with_reducible refine (of_func (.func 93) a0 q1 q2 q3 q4 q5 q6 q7 q8 _ ?hg HF.out HN.out).mono ?_); (case hg => exact Glob.below HG.out (by repeat (with_reducible first | exact HB1.out | apply below_alloc | (refine below_set ?_ (Nat.le_refl _)) | apply pw_below_drewN | apply below_drew1))); rintro e2 w2 ⟨rfl, hb2⟩; have hlt2 : w.heap.size < w2.heap.size := (by have := hb2.size; (try simp at this); omega); have hc2 := fun j => hb2.cell (p := ⟨w.heap.size, j, none⟩) (by first | (simp; done) | (simp; omega) | omega); have hz2 := fun j => hb2.frozen (p := ⟨w.heap.size, j, none⟩) (by first | (simp; done) | (simp; omega) | omega);  have HB2 := Aside0.mk (below_step (by repeat (with_reducible first | exact HB1.out | apply below_alloc | (refine below_set ?_ (Nat.le_refl _)) | apply pw_below_drewN | apply below_drew1)) hb2); clear hb2) | (go_at_call 51; (with_reducible refine (parts_func (.func 93) q1 q2 q3 q4 q5 q6 q7 a1 _ s2 _ HP.out).mono ?_); rintro e3 w3 ⟨rfl, hb3⟩; have hlt3 : w.heap.size < w3.heap.size := (by have := hb3.size; (try simp at this); omega); have hc3 := fun j => hb3.cell (p := ⟨w.heap.size, j, none⟩) (by first | (simp; done) | (simp; omega) | omega); have hz3 := fun j => hb3.frozen (p := ⟨w.heap.size, j, none⟩) (by first | (simp; done) | (simp; omega) | omega);  have hcs3 := fun j => hb3.cell (p := ⟨w2.heap.size, j, none⟩) (by first | (simp; done) | (simp; omega) | omega); have hzs3 := fun j => hb3.frozen (p := ⟨w2.heap.size, j, none⟩) (by first | (simp; done) | (simp; omega) | omega); have hlts3 : w2.heap.size < w3.heap.size := (by have := hb3.size; (try simp at this); omega); have HB3 := Aside0.mk (below_step (by repeat (with_reducible first | exact HB2.out | apply below_alloc | (refine below_set ?_ (Nat.le_refl _)) | apply pw_below_drewN | apply below_drew1)) hb3); clear hb3) | (go_at_call 52; (with_reducible refine (class_func (.func 93) q1 q2 q3 q4 q5 q6 q7 a1 s2 _).mono ?_); rw [HC.out]; rintro e4 w4 ⟨rfl, hb4⟩; have hlt4 : w.heap.size < w4.heap.size := (by have := hb4.size; (try simp at this); omega); have hc4 := fun j => hb4.cell (p := ⟨w.heap.size, j, none⟩) (by first | (simp; done) | (simp; omega) | omega); have hz4 := fun j => hb4.frozen (p := ⟨w.heap.size, j, none⟩) (by first | (simp; done) | (simp; omega) | omega);  have hcs4 := fun j => hb4.cell (p := ⟨w2.heap.size, j, none⟩) (by first | (simp; done) | (simp; omega) | omega); have hzs4 := fun j => hb4.frozen (p := ⟨w2.heap.size, j, none⟩) (by first | (simp; done) | (simp; omega) | omega); have hlts4 : w2.heap.size < w4.heap.size := (by have := hb4.size; (try simp at this); omega); have HB4 := Aside0.mk (below_step (by repeat (with_reducible first | exact HB3.out | apply below_alloc | (refine below_set ?_ (Nat.le_refl _)) | apply pw_below_drewN | apply below_drew1)) hb4); clear hb4) | (go_at_call 93; (with_reducible refine (num4_0 q1 q2 q3 q4 q5 q6 q7 _ _).mono ?_); rintro e5 w5 ⟨rfl, hb5⟩; have hlt5 : w.heap.size < w5.heap.size := (by have := hb5.size; (try simp at this); omega); have hc5 := fun j => hb5.cell (p := ⟨w.heap.size, j, none⟩) (by first | (simp; done) | (simp; omega) | omega); have hz5 := fun j => hb5.frozen (p := ⟨w.heap.size, j, none⟩) (by first | (simp; done) | (simp; omega) | omega);  have hcs5 := fun j => hb5.cell (p := ⟨w2.heap.size, j, none⟩) (by first | (simp; done) | (simp; omega) | omega); have hzs5 := fun j => hb5.frozen (p := ⟨w2.heap.size, j, none⟩) (by first | (simp; done) | (simp; omega) | omega); have hlts5 : w2.heap.size < w5.heap.size := (by have := hb5.size; (try simp at this); omega); have HB5 := Aside0.mk (below_step (by repeat (with_reducible first | exact HB4.out | apply below_alloc | (refine below_set ?_ (Nat.le_refl _)) | apply pw_below_drewN | apply below_drew1)) hb5); clear hb5))
        refine bodyPost_ret (v := .tuple #[.agg #[.int .i64 2, .bool s1, .int .u64 1, .int .i64 (wrap64 (wrap64 (wrap64 s2 - q4)))], .int .i64 0]) (by simp (maxDischargeDepth := 5) [↓isSome_setCell_eq, results, Tryd.results26, go_sem, hc1, hlt1, hc2, hlt2, hc3, hlt3, hc4, hlt4, hc5, hlt5]) rfl ⟨rfl, ?_⟩
        repeat (with_reducible first | exact HB5.out | apply below_alloc | (refine below_set ?_ (Nat.le_refl _)) | apply pw_below_drewN | apply below_drew1)
      simp only [if_neg k4] at hn
      cases hn
    · rw [if_neg d2] at h
      obtain ⟨fn, hn⟩ := fnOf_func hk.1 hk.2
      have HN := Aside0.mk hn
      have e2 : (c == 2) = false := beq_eq_false_iff_ne.2 d2
      clear hn hk d2
      by_cases d1 : c = 1
      · subst d1
        simp only [if_true, Option.some.injEq, Prod.mk.injEq] at h
        obtain ⟨rfl, rfl, rfl, rfl, rfl⟩ := h
        go_enter Tryd.func26, Tryd.ntmps26
        go_wp2_with (first | (go_at_call 50; (with_reducible refine (forms_Fits.calls a0 a1 _ _ ?hg HX.out).mono ?_); (case hg => exact Glob.below HG.out (below_alloc (Below.refl _ _) _)); rintro e1 w1 ⟨rfl, hb1⟩; have hlt1 : w.heap.size < w1.heap.size := (by have := hb1.size; (try simp at this); omega); have hc1 := fun j => hb1.cell (p := ⟨w.heap.size, j, none⟩) (by first | (simp; done) | (simp; omega) | omega); have hz1 := fun j => hb1.frozen (p := ⟨w.heap.size, j, none⟩) (by first | (simp; done) | (simp; omega) | omega);  have HB1 := Aside0.mk (below_step (below_alloc (Below.refl _ _) _) hb1); clear hb1) | (go_at_call 49; (with_reducible refine (of_func fn a0 q1 q2 q3 q4 q5 q6 q7 q8 _ ?hg HF.out HN.out).mono ?_); (case hg => exact Glob.below HG.out (by repeat (with_reducible first | exact HB1.out | apply below_alloc | (refine below_set ?_ (Nat.le_refl _)) | apply pw_below_drewN | apply below_drew1))); rintro e2 w2 ⟨rfl, hb2⟩; have hlt2 : w.heap.size < w2.heap.size := (by have := hb2.size; (try simp at this); omega); have hc2 := fun j => hb2.cell (p := ⟨w.heap.size, j, none⟩) (by first | (simp; done) | (simp; omega) | omega); have hz2 := fun j => hb2.frozen (p := ⟨w.heap.size, j, none⟩) (by first | (simp; done) | (simp; omega) | omega);  have HB2 := Aside0.mk (below_step (by repeat (with_reducible first | exact HB1.out | apply below_alloc | (refine below_set ?_ (Nat.le_refl _)) | apply pw_below_drewN | apply below_drew1)) hb2); clear hb2) | (go_at_call 51; (with_reducible refine (parts_func fn q1 q2 q3 q4 q5 q6 q7 a1 _ s2 _ HP.out).mono ?_); rintro e3 w3 ⟨rfl, hb3⟩; have hlt3 : w.heap.size < w3.heap.size := (by have := hb3.size; (try simp at this); omega); have hc3 := fun j => hb3.cell (p := ⟨w.heap.size, j, none⟩) (by first | (simp; done) | (simp; omega) | omega); have hz3 := fun j => hb3.frozen (p := ⟨w.heap.size, j, none⟩) (by first | (simp; done) | (simp; omega) | omega);  have hcs3 := fun j => hb3.cell (p := ⟨w2.heap.size, j, none⟩) (by first | (simp; done) | (simp; omega) | omega); have hzs3 := fun j => hb3.frozen (p := ⟨w2.heap.size, j, none⟩) (by first | (simp; done) | (simp; omega) | omega); have hlts3 : w2.heap.size < w3.heap.size := (by have := hb3.size; (try simp at this); omega); have HB3 := Aside0.mk (below_step (by repeat (with_reducible first | exact HB2.out | apply below_alloc | (refine below_set ?_ (Nat.le_refl _)) | apply pw_below_drewN | apply below_drew1)) hb3); clear hb3) | (go_at_call 52; (with_reducible refine (class_func fn q1 q2 q3 q4 q5 q6 q7 a1 s2 _).mono ?_); rw [HC.out]; rintro e4 w4 ⟨rfl, hb4⟩; have hlt4 : w.heap.size < w4.heap.size := (by have := hb4.size; (try simp at this); omega); have hc4 := fun j => hb4.cell (p := ⟨w.heap.size, j, none⟩) (by first | (simp; done) | (simp; omega) | omega); have hz4 := fun j => hb4.frozen (p := ⟨w.heap.size, j, none⟩) (by first | (simp; done) | (simp; omega) | omega);  have hcs4 := fun j => hb4.cell (p := ⟨w2.heap.size, j, none⟩) (by first | (simp; done) | (simp; omega) | omega); have hzs4 := fun j => hb4.frozen (p := ⟨w2.heap.size, j, none⟩) (by first | (simp; done) | (simp; omega) | omega); have hlts4 : w2.heap.size < w4.heap.size := (by have := hb4.size; (try simp at this); omega); have HB4 := Aside0.mk (below_step (by repeat (with_reducible first | exact HB3.out | apply below_alloc | (refine below_set ?_ (Nat.le_refl _)) | apply pw_below_drewN | apply below_drew1)) hb4); clear hb4))
        refine bodyPost_ret (v := .tuple #[.agg #[.int .i64 1, .bool s1, .int .u64 0, .int .i64 0], .int .i64 0]) (by simp (maxDischargeDepth := 5) [↓isSome_setCell_eq, results, Tryd.results26, go_sem, hc1, hlt1, hc2, hlt2, hc3, hlt3, hc4, hlt4]) rfl ⟨rfl, ?_⟩
        repeat (with_reducible first | exact HB4.out | apply below_alloc | (refine below_set ?_ (Nat.le_refl _)) | apply pw_below_drewN | apply below_drew1)
      · rw [if_neg d1] at h
        have e1 : (c == 1) = false := beq_eq_false_iff_ne.2 d1
        clear d1
        by_cases d3 : c = 3
        · subst d3
          simp only [if_true, Option.some.injEq, Prod.mk.injEq] at h
          obtain ⟨rfl, rfl, rfl, rfl, rfl⟩ := h
          go_enter Tryd.func26, Tryd.ntmps26
          go_wp2_with (first | (go_at_call 50; (with_reducible refine (forms_Fits.calls a0 a1 _ _ ?hg HX.out).mono ?_); (case hg => exact Glob.below HG.out (below_alloc (Below.refl _ _) _)); rintro e1 w1 ⟨rfl, hb1⟩; have hlt1 : w.heap.size < w1.heap.size := (by have := hb1.size; (try simp at this); omega); have hc1 := fun j => hb1.cell (p := ⟨w.heap.size, j, none⟩) (by first | (simp; done) | (simp; omega) | omega); have hz1 := fun j => hb1.frozen (p := ⟨w.heap.size, j, none⟩) (by first | (simp; done) | (simp; omega) | omega);  have HB1 := Aside0.mk (below_step (below_alloc (Below.refl _ _) _) hb1); clear hb1) | (go_at_call 49; (with_reducible refine (of_func fn a0 q1 q2 q3 q4 q5 q6 q7 q8 _ ?hg HF.out HN.out).mono ?_); (case hg => exact Glob.below HG.out (by repeat (with_reducible first | exact HB1.out | apply below_alloc | (refine below_set ?_ (Nat.le_refl _)) | apply pw_below_drewN | apply below_drew1))); rintro e2 w2 ⟨rfl, hb2⟩; have hlt2 : w.heap.size < w2.heap.size := (by have := hb2.size; (try simp at this); omega); have hc2 := fun j => hb2.cell (p := ⟨w.heap.size, j, none⟩) (by first | (simp; done) | (simp; omega) | omega); have hz2 := fun j => hb2.frozen (p := ⟨w.heap.size, j, none⟩) (by first | (simp; done) | (simp; omega) | omega);  have HB2 := Aside0.mk (below_step (by repeat (with_reducible first | exact HB1.out | apply below_alloc | (refine below_set ?_ (Nat.le_refl _)) | apply pw_below_drewN | apply below_drew1)) hb2); clear hb2) | (go_at_call 51; (with_reducible refine (parts_func fn q1 q2 q3 q4 q5 q6 q7 a1 _ s2 _ HP.out).mono ?_); rintro e3 w3 ⟨rfl, hb3⟩; have hlt3 : w.heap.size < w3.heap.size := (by have := hb3.size; (try simp at this); omega); have hc3 := fun j => hb3.cell (p := ⟨w.heap.size, j, none⟩) (by first | (simp; done) | (simp; omega) | omega); have hz3 := fun j => hb3.frozen (p := ⟨w.heap.size, j, none⟩) (by first | (simp; done) | (simp; omega) | omega);  have hcs3 := fun j => hb3.cell (p := ⟨w2.heap.size, j, none⟩) (by first | (simp; done) | (simp; omega) | omega); have hzs3 := fun j => hb3.frozen (p := ⟨w2.heap.size, j, none⟩) (by first | (simp; done) | (simp; omega) | omega); have hlts3 : w2.heap.size < w3.heap.size := (by have := hb3.size; (try simp at this); omega); have HB3 := Aside0.mk (below_step (by repeat (with_reducible first | exact HB2.out | apply below_alloc | (refine below_set ?_ (Nat.le_refl _)) | apply pw_below_drewN | apply below_drew1)) hb3); clear hb3) | (go_at_call 52; (with_reducible refine (class_func fn q1 q2 q3 q4 q5 q6 q7 a1 s2 _).mono ?_); rw [HC.out]; rintro e4 w4 ⟨rfl, hb4⟩; have hlt4 : w.heap.size < w4.heap.size := (by have := hb4.size; (try simp at this); omega); have hc4 := fun j => hb4.cell (p := ⟨w.heap.size, j, none⟩) (by first | (simp; done) | (simp; omega) | omega); have hz4 := fun j => hb4.frozen (p := ⟨w.heap.size, j, none⟩) (by first | (simp; done) | (simp; omega) | omega);  have hcs4 := fun j => hb4.cell (p := ⟨w2.heap.size, j, none⟩) (by first | (simp; done) | (simp; omega) | omega); have hzs4 := fun j => hb4.frozen (p := ⟨w2.heap.size, j, none⟩) (by first | (simp; done) | (simp; omega) | omega); have hlts4 : w2.heap.size < w4.heap.size := (by have := hb4.size; (try simp at this); omega); have HB4 := Aside0.mk (below_step (by repeat (with_reducible first | exact HB3.out | apply below_alloc | (refine below_set ?_ (Nat.le_refl _)) | apply pw_below_drewN | apply below_drew1)) hb4); clear hb4))
          refine bodyPost_ret (v := .tuple #[.agg #[.int .i64 3, .bool s1, .int .u64 0, .int .i64 0], .int .i64 0]) (by simp (maxDischargeDepth := 5) [↓isSome_setCell_eq, results, Tryd.results26, go_sem, hc1, hlt1, hc2, hlt2, hc3, hlt3, hc4, hlt4]) rfl ⟨rfl, ?_⟩
          repeat (with_reducible first | exact HB4.out | apply below_alloc | (refine below_set ?_ (Nat.le_refl _)) | apply pw_below_drewN | apply below_drew1)
        · rw [if_neg d3] at h
          have e3 : (c == 3) = false := beq_eq_false_iff_ne.2 d3
          clear d3
          simp only [Option.some.injEq, Prod.mk.injEq] at h
          obtain ⟨rfl, rfl, rfl, rfl, rfl⟩ := h
          go_enter Tryd.func26, Tryd.ntmps26
          go_wp2_with (first | (go_at_call 50; (with_reducible refine (forms_Fits.calls a0 a1 _ _ ?hg HX.out).mono ?_); (case hg => exact Glob.below HG.out (below_alloc (Below.refl _ _) _)); rintro e1 w1 ⟨rfl, hb1⟩; have hlt1 : w.heap.size < w1.heap.size := (by have := hb1.size; (try simp at this); omega); have hc1 := fun j => hb1.cell (p := ⟨w.heap.size, j, none⟩) (by first | (simp; done) | (simp; omega) | omega); have hz1 := fun j => hb1.frozen (p := ⟨w.heap.size, j, none⟩) (by first | (simp; done) | (simp; omega) | omega);  have HB1 := Aside0.mk (below_step (below_alloc (Below.refl _ _) _) hb1); clear hb1) | (go_at_call 49; (with_reducible refine (of_func fn a0 q1 q2 q3 q4 q5 q6 q7 q8 _ ?hg HF.out HN.out).mono ?_); (case hg => exact Glob.below HG.out (by repeat (with_reducible first | exact HB1.out | apply below_alloc | (refine below_set ?_ (Nat.le_refl _)) | apply pw_below_drewN | apply below_drew1))); rintro e2 w2 ⟨rfl, hb2⟩; have hlt2 : w.heap.size < w2.heap.size := (by have := hb2.size; (try simp at this); omega); have hc2 := fun j => hb2.cell (p := ⟨w.heap.size, j, none⟩) (by first | (simp; done) | (simp; omega) | omega); have hz2 := fun j => hb2.frozen (p := ⟨w.heap.size, j, none⟩) (by first | (simp; done) | (simp; omega) | omega);  have HB2 := Aside0.mk (below_step (by repeat (with_reducible first | exact HB1.out | apply below_alloc | (refine below_set ?_ (Nat.le_refl _)) | apply pw_below_drewN | apply below_drew1)) hb2); clear hb2) | (go_at_call 51; (with_reducible refine (parts_func fn q1 q2 q3 q4 q5 q6 q7 a1 _ s2 _ HP.out).mono ?_); rintro e3 w3 ⟨rfl, hb3⟩; have hlt3 : w.heap.size < w3.heap.size := (by have := hb3.size; (try simp at this); omega); have hc3 := fun j => hb3.cell (p := ⟨w.heap.size, j, none⟩) (by first | (simp; done) | (simp; omega) | omega); have hz3 := fun j => hb3.frozen (p := ⟨w.heap.size, j, none⟩) (by first | (simp; done) | (simp; omega) | omega);  have hcs3 := fun j => hb3.cell (p := ⟨w2.heap.size, j, none⟩) (by first | (simp; done) | (simp; omega) | omega); have hzs3 := fun j => hb3.frozen (p := ⟨w2.heap.size, j, none⟩) (by first | (simp; done) | (simp; omega) | omega); have hlts3 : w2.heap.size < w3.heap.size := (by have := hb3.size; (try simp at this); omega); have HB3 := Aside0.mk (below_step (by repeat (with_reducible first | exact HB2.out | apply below_alloc | (refine below_set ?_ (Nat.le_refl _)) | apply pw_below_drewN | apply below_drew1)) hb3); clear hb3) | (go_at_call 52; (with_reducible refine (class_func fn q1 q2 q3 q4 q5 q6 q7 a1 s2 _).mono ?_); rw [HC.out]; rintro e4 w4 ⟨rfl, hb4⟩; have hlt4 : w.heap.size < w4.heap.size := (by have := hb4.size; (try simp at this); omega); have hc4 := fun j => hb4.cell (p := ⟨w.heap.size, j, none⟩) (by first | (simp; done) | (simp; omega) | omega); have hz4 := fun j => hb4.frozen (p := ⟨w.heap.size, j, none⟩) (by first | (simp; done) | (simp; omega) | omega);  have hcs4 := fun j => hb4.cell (p := ⟨w2.heap.size, j, none⟩) (by first | (simp; done) | (simp; omega) | omega); have hzs4 := fun j => hb4.frozen (p := ⟨w2.heap.size, j, none⟩) (by first | (simp; done) | (simp; omega) | omega); have hlts4 : w2.heap.size < w4.heap.size := (by have := hb4.size; (try simp at this); omega); have HB4 := Aside0.mk (below_step (by repeat (with_reducible first | exact HB3.out | apply below_alloc | (refine below_set ?_ (Nat.le_refl _)) | apply pw_below_drewN | apply below_drew1)) hb4); clear hb4))
          refine bodyPost_ret (v := .tuple #[.agg #[.int .i64 c, .bool false, .int .u64 0, .int .i64 0], .int .i64 0]) (by simp (maxDischargeDepth := 5) [↓isSome_setCell_eq, results, Tryd.results26, go_sem, hc1, hlt1, hc2, hlt2, hc3, hlt3, hc4, hlt4]) rfl ⟨rfl, ?_⟩
          repeat (with_reducible first | exact HB4.out | apply below_alloc | (refine below_set ?_ (Nat.le_refl _)) | apply pw_below_drewN | apply below_drew1)
  · rw [if_neg c0] at h
    simp only [Option.some.injEq, Prod.mk.injEq] at h
    obtain ⟨rfl, rfl, rfl, rfl, rfl⟩ := h
    have b0 : (e == 0) = false := beq_eq_false_iff_ne.2 c0
    have b0' : (e != 0) = true := bne_iff_ne.2 c0
    clear c0
    go_enter Tryd.func26, Tryd.ntmps26
    go_wp2_with (go_at_call 50; (with_reducible refine (forms_Fits.calls a0 a1 _ _ ?hg HX.out).mono ?_); (case hg => exact Glob.below HG.out (below_alloc (Below.refl _ _) _)); rintro e1 w1 ⟨rfl, hb1⟩; have hlt1 : w.heap.size < w1.heap.size := (by have := hb1.size; (try simp at this); omega); have hc1 := fun j => hb1.cell (p := ⟨w.heap.size, j, none⟩) (by first | (simp; done) | (simp; omega) | omega); have hz1 := fun j => hb1.frozen (p := ⟨w.heap.size, j, none⟩) (by first | (simp; done) | (simp; omega) | omega);  have HB1 := Aside0.mk (below_step (below_alloc (Below.refl _ _) _) hb1); clear hb1)
    refine bodyPost_ret (v := .tuple #[.agg #[.int .i64 0, .bool false, .int .u64 0, .int .i64 0], .int .i64 e]) (by simp (maxDischargeDepth := 5) [↓isSome_setCell_eq, results, Tryd.results26, go_sem, hc1, hlt1]) rfl ⟨rfl, ?_⟩
    repeat (with_reducible first | exact HB1.out | apply below_alloc | (refine below_set ?_ (Nat.le_refl _)) | apply pw_below_drewN | apply below_drew1)

/-- A number's sign and magnitude. -/
def value_Key.f (a0 a1 : Int) : Option (Bool × Int × Int) :=
  (value_Decode.f a0 a1).bind fun v => if v.2.2.2.2 = 0 then (if v.1 = 3 then some (false, 0, 5) else if v.1 = 4 then some (false, 0, 5) else (forms_Of.f a0).bind fun q => if 1 ≤ q.1 ∧ q.1 ≤ 4 then (partsF q.1 q.2.1 q.2.2.1 q.2.2.2.1 q.2.2.2.2.1 q.2.2.2.2.2.1 q.2.2.2.2.2.2.1 a1).bind fun s => some (s.1, s.2, 0) else none) else some (false, 0, v.2.2.2.2)
set_option maxHeartbeats 4000000 in
set_option maxRecDepth 100000 in
theorem value_Key.calls (a0 a1 : Int) (r1 : Bool) (r2 r3 : Int) (w : World) (hG : Glob w) (h : value_Key.f a0 a1 = some (r1, r2, r3)) :
    Calls Tryd.prog 53 #[.int .i64 a0, .int .u64 a1] w fun e w' => e = .returned (.tuple #[.bool r1, .int .u64 r2, .int .i64 r3]) ∧ Below w.heap.size w w' := by
  obtain ⟨⟨c1, c2, c3, c4, e⟩, hd, h⟩ := Option.bind_eq_some_iff.1 h
  replace h : (if e = 0 then (if c1 = 3 then some (false, 0, 5) else if c1 = 4 then some (false, 0, 5) else (forms_Of.f a0).bind fun q => if 1 ≤ q.1 ∧ q.1 ≤ 4 then (partsF q.1 q.2.1 q.2.2.1 q.2.2.2.1 q.2.2.2.2.1 q.2.2.2.2.2.1 q.2.2.2.2.2.2.1 a1).bind fun s => some (s.1, s.2, 0) else none) else some (false, 0, e)) = some (r1, r2, r3) := h
  have HG := Aside0.mk hG
  have HD := Aside0.mk hd
  clear hG hd
  by_cases c0 : e = 0
  · rw [if_pos c0] at h
    have b0 : (e == 0) = true := beq_iff_eq.2 c0
    have b0' : (e != 0) = false := bne_eq_false_iff_eq.2 c0
    clear c0
    by_cases d3 : c1 = 3
    · rw [if_pos d3] at h
      simp only [Option.some.injEq, Prod.mk.injEq] at h
      obtain ⟨rfl, rfl, rfl⟩ := h
      have e3 : (c1 == 3) = true := beq_iff_eq.2 d3
      clear d3
      go_enter Tryd.func53, Tryd.ntmps53
      go_wp2_with (go_at_call 26; (with_reducible refine (value_Decode.calls a0 a1 c1 c2 c3 c4 _ _ HG.out HD.out).mono ?_); rintro e1 w1 ⟨rfl, hb1⟩; have HB1 := Aside0.mk (hb1); clear hb1)
      go_ret3
      exact ⟨rfl, by repeat (with_reducible first | exact HB1.out | apply below_alloc | (refine below_set ?_ (Nat.le_refl _)) | apply pw_below_drewN | apply below_drew1)⟩
    rw [if_neg d3] at h
    have e3 : (c1 == 3) = false := beq_eq_false_iff_ne.2 d3
    clear d3
    by_cases d4 : c1 = 4
    · rw [if_pos d4] at h
      simp only [Option.some.injEq, Prod.mk.injEq] at h
      obtain ⟨rfl, rfl, rfl⟩ := h
      have e4 : (c1 == 4) = true := beq_iff_eq.2 d4
      clear d4
      go_enter Tryd.func53, Tryd.ntmps53
      go_wp2_with (go_at_call 26; (with_reducible refine (value_Decode.calls a0 a1 c1 c2 c3 c4 _ _ HG.out HD.out).mono ?_); rintro e1 w1 ⟨rfl, hb1⟩; have HB1 := Aside0.mk (hb1); clear hb1)
      go_ret3
      exact ⟨rfl, by repeat (with_reducible first | exact HB1.out | apply below_alloc | (refine below_set ?_ (Nat.le_refl _)) | apply pw_below_drewN | apply below_drew1)⟩
    rw [if_neg d4] at h
    have e4 : (c1 == 4) = false := beq_eq_false_iff_ne.2 d4
    clear d4
    obtain ⟨⟨q1, q2, q3, q4, q5, q6, q7, q8⟩, hf, h⟩ := Option.bind_eq_some_iff.1 h
    replace h : (if 1 ≤ q1 ∧ q1 ≤ 4 then (partsF q1 q2 q3 q4 q5 q6 q7 a1).bind fun s => some (s.1, s.2, 0) else none) = some (r1, r2, r3) := h
    have HF := Aside0.mk hf
    clear hf
    by_cases hk : 1 ≤ q1 ∧ q1 ≤ 4
    case neg => rw [if_neg hk] at h; cases h
    rw [if_pos hk] at h
    obtain ⟨⟨s1, s2⟩, hp, h⟩ := Option.bind_eq_some_iff.1 h
    simp only [Option.some.injEq, Prod.mk.injEq] at h
    obtain ⟨rfl, rfl, rfl⟩ := h
    have HP := Aside0.mk hp
    obtain ⟨fn, hn⟩ := fnOf_func hk.1 hk.2
    have HN := Aside0.mk hn
    clear hp hn hk
    go_enter Tryd.func53, Tryd.ntmps53
    go_wp2_with (first | (go_at_call 26; (with_reducible refine (value_Decode.calls a0 a1 c1 c2 c3 c4 _ _ HG.out HD.out).mono ?_); rintro e1 w1 ⟨rfl, hb1⟩; have HB1 := Aside0.mk (hb1); clear hb1) | (go_at_call 49; (with_reducible refine (of_func fn a0 q1 q2 q3 q4 q5 q6 q7 q8 _ ?hg HF.out HN.out).mono ?_); (case hg => exact Glob.below HG.out (by repeat (with_reducible first | exact HB1.out | apply below_alloc | (refine below_set ?_ (Nat.le_refl _)) | apply pw_below_drewN | apply below_drew1))); rintro e2 w2 ⟨rfl, hb2⟩; have HB2 := Aside0.mk (below_step (by repeat (with_reducible first | exact HB1.out | apply below_alloc | (refine below_set ?_ (Nat.le_refl _)) | apply pw_below_drewN | apply below_drew1)) hb2); clear hb2) | (go_at_call 51; (with_reducible refine (parts_func fn q1 q2 q3 q4 q5 q6 q7 a1 _ s2 _ HP.out).mono ?_); rintro e3 w3 ⟨rfl, hb3⟩; have HB3 := Aside0.mk (below_step (by repeat (with_reducible first | exact HB2.out | apply below_alloc | (refine below_set ?_ (Nat.le_refl _)) | apply pw_below_drewN | apply below_drew1)) hb3); clear hb3))
    go_ret3
    exact ⟨rfl, by repeat (with_reducible first | exact HB3.out | apply below_alloc | (refine below_set ?_ (Nat.le_refl _)) | apply pw_below_drewN | apply below_drew1)⟩
  · rw [if_neg c0] at h
    simp only [Option.some.injEq, Prod.mk.injEq] at h
    obtain ⟨rfl, rfl, rfl⟩ := h
    have b0 : (e == 0) = false := beq_eq_false_iff_ne.2 c0
    have b0' : (e != 0) = true := bne_iff_ne.2 c0
    clear c0
    go_enter Tryd.func53, Tryd.ntmps53
    go_wp2_with (go_at_call 26; (with_reducible refine (value_Decode.calls a0 a1 c1 c2 c3 c4 _ _ HG.out HD.out).mono ?_); rintro e1 w1 ⟨rfl, hb1⟩; have HB1 := Aside0.mk (hb1); clear hb1)
    go_ret3
    exact ⟨rfl, by repeat (with_reducible first | exact HB1.out | apply below_alloc | (refine below_set ?_ (Nat.le_refl _)) | apply pw_below_drewN | apply below_drew1)⟩

end Go.Proofs.YtmcodbgbjjldnaaDoor.Pr
