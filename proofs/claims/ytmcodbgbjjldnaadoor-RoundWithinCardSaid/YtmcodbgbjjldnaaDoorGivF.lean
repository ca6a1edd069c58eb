/- Contracts by hand: value.fits, value.Between, value.Pattern. -/
import Derived.Test.YtmcodbgbjjldnaaDoorGivE
import Derived.BigQuiet
set_option linter.unusedVariables false
set_option linter.unusedSimpArgs false
namespace Go.Proofs.YtmcodbgbjjldnaaDoor.Pr
open Go.RowKit Go.Proofs.YtmcodbgbjjldnaaDoorW.PrintWords Go.Proofs.YtmcodbgbjjldnaaDoorW.PrintLast Go.Proofs.YtmcodbgbjjldnaaDoorW.PrintMore

/-- A magnitude's number, with so many bits more: M and E. -/
def numF (q1 q2 q3 q4 more key : Int) : Option (Int × Int) :=
  if q1 = 1 then posit_value.f 9 (wrap64 (q2 + more)) key
  else if q1 = 2 then (mini_Value.f 9 (wrap64 (q3 + more)) q4 key).bind fun r => some (r.1, r.2.1)
  else if q1 = 3 then value_odd.f key (wrap64 (wrap64 (-q3) - more))
  else if q1 = 4 then (if more = 0 then some (1, wrap64 (wrap64 (wrap64 key - q4))) else if more = 1 then some (3, wrap64 (wrap64 (wrap64 (key / 2) - q4) - 1)) else none)
  else none

/-- What fits answers beside the shape. -/
def fitsE (a1 q1 q5 q8 : Int) : Int := if q8 = 0 then (if q1 = 3 then (if a1 > IntKind.u64.wrap (q5 + 1) then 4 else 0) else if a1 > q5 then 4 else 0) else q8
set_option maxHeartbeats 2000000 in
set_option maxRecDepth 100000 in
theorem fits_func (fn : Fn) (a0 a1 : Int) (q1 q2 q3 q4 q5 q6 q7 q8 : Int) (w : World) (hG : Glob w) (h : forms_Of.f a0 = some (q1, q2, q3, q4, q5, q6, q7, q8)) (hf : fnOf q1 = .func fn #[] #[]) :
    Calls Tryd.prog 46 #[.int .i64 a0, .int .u64 a1] w fun e w' => e = .returned (.tuple #[.agg #[.int .i64 q1, .int .i64 q2, .int .i64 q3, .int .i64 q4, .int .u64 q5, .int .u64 q6, .int .u64 q7, .func fn #[] #[]], .int .i64 (fitsE a1 q1 q5 q8)]) ∧ Below w.heap.size w w' := by
  have HG := Aside0.mk hG
  have HF := Aside0.mk h
  have HN := Aside0.mk hf
  clear hG h hf
  obtain ⟨c, hE⟩ : ∃ c, fitsE a1 q1 q5 q8 = c := ⟨_, rfl⟩
  rw [hE]
  unfold fitsE at hE
  by_cases c8 : q8 = 0
  · simp only [if_pos c8] at hE
    have b8 : (q8 == 0) = true := beq_iff_eq.2 c8
    have b8' : (q8 != 0) = false := bne_eq_false_iff_eq.2 c8
    by_cases c3 : q1 = 3
    · simp only [if_pos c3] at hE
      have b3 : (q1 == 3) = true := beq_iff_eq.2 c3
      by_cases ca : a1 > IntKind.u64.wrap (q5 + 1)
      · simp only [if_pos ca] at hE
        have ba : decide (IntKind.u64.wrap (q5 + 1) < a1) = true := decide_eq_true ca
        have HE := Aside0.mk hE
        clear c8 c3 ca hE
        go_enter Tryd.func46, Tryd.ntmps46
        go_wp2_with (go_at_call 49; (with_reducible refine (of_func fn a0 q1 q2 q3 q4 q5 q6 q7 q8 _ ?hg HF.out HN.out).mono ?_); (case hg => exact Glob.below HG.out (below_alloc (Below.refl _ _) _)); rintro e w1 ⟨rfl, hb1⟩; have hlt : w.heap.size < w1.heap.size := (by have := hb1.size; simp at this; omega); have hc := fun j => hb1.cell (p := ⟨w.heap.size, j, none⟩) (by simp); have hz := fun j => hb1.frozen (p := ⟨w.heap.size, j, none⟩) (by simp); have HB := Aside0.mk (below_step (below_alloc (Below.refl _ _) _) hb1); clear hb1)
        refine bodyPost_ret (v := .tuple #[.agg #[.int .i64 q1, .int .i64 q2, .int .i64 q3, .int .i64 q4, .int .u64 q5, .int .u64 q6, .int .u64 q7, .func fn #[] #[]], .int .i64 4]) (by simp [results, Tryd.results46, go_sem, hc, hlt]) rfl ⟨by rw [← HE.out], ?_⟩
        repeat (with_reducible first | exact HB.out | apply below_alloc | refine below_set ?_ (Nat.le_refl _))
      · simp only [if_neg ca] at hE
        have ba : decide (IntKind.u64.wrap (q5 + 1) < a1) = false := decide_eq_false ca
        have HE := Aside0.mk hE
        clear c8 c3 ca hE
        go_enter Tryd.func46, Tryd.ntmps46
        go_wp2_with (go_at_call 49; (with_reducible refine (of_func fn a0 q1 q2 q3 q4 q5 q6 q7 q8 _ ?hg HF.out HN.out).mono ?_); (case hg => exact Glob.below HG.out (below_alloc (Below.refl _ _) _)); rintro e w1 ⟨rfl, hb1⟩; have hlt : w.heap.size < w1.heap.size := (by have := hb1.size; simp at this; omega); have hc := fun j => hb1.cell (p := ⟨w.heap.size, j, none⟩) (by simp); have hz := fun j => hb1.frozen (p := ⟨w.heap.size, j, none⟩) (by simp); have HB := Aside0.mk (below_step (below_alloc (Below.refl _ _) _) hb1); clear hb1)
        refine bodyPost_ret (v := .tuple #[.agg #[.int .i64 q1, .int .i64 q2, .int .i64 q3, .int .i64 q4, .int .u64 q5, .int .u64 q6, .int .u64 q7, .func fn #[] #[]], .int .i64 0]) (by simp [results, Tryd.results46, go_sem, hc, hlt]) rfl ⟨by rw [← HE.out], ?_⟩
        repeat (with_reducible first | exact HB.out | apply below_alloc | refine below_set ?_ (Nat.le_refl _))
    · simp only [if_neg c3] at hE
      have b3 : (q1 == 3) = false := beq_eq_false_iff_ne.2 c3
      by_cases ca : a1 > q5
      · simp only [if_pos ca] at hE
        have ba : decide (q5 < a1) = true := decide_eq_true ca
        have HE := Aside0.mk hE
        clear c8 c3 ca hE
        go_enter Tryd.func46, Tryd.ntmps46
        go_wp2_with (go_at_call 49; (with_reducible refine (of_func fn a0 q1 q2 q3 q4 q5 q6 q7 q8 _ ?hg HF.out HN.out).mono ?_); (case hg => exact Glob.below HG.out (below_alloc (Below.refl _ _) _)); rintro e w1 ⟨rfl, hb1⟩; have hlt : w.heap.size < w1.heap.size := (by have := hb1.size; simp at this; omega); have hc := fun j => hb1.cell (p := ⟨w.heap.size, j, none⟩) (by simp); have hz := fun j => hb1.frozen (p := ⟨w.heap.size, j, none⟩) (by simp); have HB := Aside0.mk (below_step (below_alloc (Below.refl _ _) _) hb1); clear hb1)
        refine bodyPost_ret (v := .tuple #[.agg #[.int .i64 q1, .int .i64 q2, .int .i64 q3, .int .i64 q4, .int .u64 q5, .int .u64 q6, .int .u64 q7, .func fn #[] #[]], .int .i64 4]) (by simp [results, Tryd.results46, go_sem, hc, hlt]) rfl ⟨by rw [← HE.out], ?_⟩
        repeat (with_reducible first | exact HB.out | apply below_alloc | refine below_set ?_ (Nat.le_refl _))
      · simp only [if_neg ca] at hE
        have ba : decide (q5 < a1) = false := decide_eq_false ca
        have HE := Aside0.mk hE
        clear c8 c3 ca hE
        go_enter Tryd.func46, Tryd.ntmps46
        go_wp2_with (go_at_call 49; (with_reducible refine (of_func fn a0 q1 q2 q3 q4 q5 q6 q7 q8 _ ?hg HF.out HN.out).mono ?_); (case hg => exact Glob.below HG.out (below_alloc (Below.refl _ _) _)); rintro e w1 ⟨rfl, hb1⟩; have hlt : w.heap.size < w1.heap.size := (by have := hb1.size; simp at this; omega); have hc := fun j => hb1.cell (p := ⟨w.heap.size, j, none⟩) (by simp); have hz := fun j => hb1.frozen (p := ⟨w.heap.size, j, none⟩) (by simp); have HB := Aside0.mk (below_step (below_alloc (Below.refl _ _) _) hb1); clear hb1)
        refine bodyPost_ret (v := .tuple #[.agg #[.int .i64 q1, .int .i64 q2, .int .i64 q3, .int .i64 q4, .int .u64 q5, .int .u64 q6, .int .u64 q7, .func fn #[] #[]], .int .i64 0]) (by simp [results, Tryd.results46, go_sem, hc, hlt]) rfl ⟨by rw [← HE.out], ?_⟩
        repeat (with_reducible first | exact HB.out | apply below_alloc | refine below_set ?_ (Nat.le_refl _))
  · simp only [if_neg c8] at hE
    have b8 : (q8 == 0) = false := beq_eq_false_iff_ne.2 c8
    have b8' : (q8 != 0) = true := bne_iff_ne.2 c8
    have HE := Aside0.mk hE
    clear c8 hE
    go_enter Tryd.func46, Tryd.ntmps46
    go_wp2_with (go_at_call 49; (with_reducible refine (of_func fn a0 q1 q2 q3 q4 q5 q6 q7 q8 _ ?hg HF.out HN.out).mono ?_); (case hg => exact Glob.below HG.out (below_alloc (Below.refl _ _) _)); rintro e w1 ⟨rfl, hb1⟩; have hlt : w.heap.size < w1.heap.size := (by have := hb1.size; simp at this; omega); have hc := fun j => hb1.cell (p := ⟨w.heap.size, j, none⟩) (by simp); have hz := fun j => hb1.frozen (p := ⟨w.heap.size, j, none⟩) (by simp); have HB := Aside0.mk (below_step (below_alloc (Below.refl _ _) _) hb1); clear hb1)
    refine bodyPost_ret (v := .tuple #[.agg #[.int .i64 q1, .int .i64 q2, .int .i64 q3, .int .i64 q4, .int .u64 q5, .int .u64 q6, .int .u64 q7, .func fn #[] #[]], .int .i64 q8]) (by simp [results, Tryd.results46, go_sem, hc, hlt]) rfl ⟨by rw [← HE.out], ?_⟩
    repeat (with_reducible first | exact HB.out | apply below_alloc | refine below_set ?_ (Nat.le_refl _))

set_option maxHeartbeats 2000000 in
set_option maxRecDepth 100000 in
theorem fits_nil (a0 a1 : Int) (q1 q2 q3 q4 q5 q6 q7 q8 : Int) (w : World) (hG : Glob w) (h : forms_Of.f a0 = some (q1, q2, q3, q4, q5, q6, q7, q8)) (hf : fnOf q1 = .nilFunc) :
    Calls Tryd.prog 46 #[.int .i64 a0, .int .u64 a1] w fun e w' => e = .returned (.tuple #[.agg #[.int .i64 q1, .int .i64 q2, .int .i64 q3, .int .i64 q4, .int .u64 q5, .int .u64 q6, .int .u64 q7, .nilFunc], .int .i64 (fitsE a1 q1 q5 q8)]) ∧ Below w.heap.size w w' := by
  have HG := Aside0.mk hG
  have HF := Aside0.mk h
  have HN := Aside0.mk hf
  clear hG h hf
  obtain ⟨c, hE⟩ : ∃ c, fitsE a1 q1 q5 q8 = c := ⟨_, rfl⟩
  rw [hE]
  unfold fitsE at hE
  by_cases c8 : q8 = 0
  · simp only [if_pos c8] at hE
    have b8 : (q8 == 0) = true := beq_iff_eq.2 c8
    have b8' : (q8 != 0) = false := bne_eq_false_iff_eq.2 c8
    by_cases c3 : q1 = 3
    · simp only [if_pos c3] at hE
      have b3 : (q1 == 3) = true := beq_iff_eq.2 c3
      by_cases ca : a1 > IntKind.u64.wrap (q5 + 1)
      · simp only [if_pos ca] at hE
        have ba : decide (IntKind.u64.wrap (q5 + 1) < a1) = true := decide_eq_true ca
        have HE := Aside0.mk hE
        clear c8 c3 ca hE
        go_enter Tryd.func46, Tryd.ntmps46
        go_wp2_with (go_at_call 49; (with_reducible refine (of_nil a0 q1 q2 q3 q4 q5 q6 q7 q8 _ ?hg HF.out HN.out).mono ?_); (case hg => exact Glob.below HG.out (below_alloc (Below.refl _ _) _)); rintro e w1 ⟨rfl, hb1⟩; have hlt : w.heap.size < w1.heap.size := (by have := hb1.size; simp at this; omega); have hc := fun j => hb1.cell (p := ⟨w.heap.size, j, none⟩) (by simp); have hz := fun j => hb1.frozen (p := ⟨w.heap.size, j, none⟩) (by simp); have HB := Aside0.mk (below_step (below_alloc (Below.refl _ _) _) hb1); clear hb1)
        refine bodyPost_ret (v := .tuple #[.agg #[.int .i64 q1, .int .i64 q2, .int .i64 q3, .int .i64 q4, .int .u64 q5, .int .u64 q6, .int .u64 q7, .nilFunc], .int .i64 4]) (by simp [results, Tryd.results46, go_sem, hc, hlt]) rfl ⟨by rw [← HE.out], ?_⟩
        repeat (with_reducible first | exact HB.out | apply below_alloc | refine below_set ?_ (Nat.le_refl _))
      · simp only [if_neg ca] at hE
        have ba : decide (IntKind.u64.wrap (q5 + 1) < a1) = false := decide_eq_false ca
        have HE := Aside0.mk hE
        clear c8 c3 ca hE
        go_enter Tryd.func46, Tryd.ntmps46
        go_wp2_with (go_at_call 49; (with_reducible refine (of_nil a0 q1 q2 q3 q4 q5 q6 q7 q8 _ ?hg HF.out HN.out).mono ?_); (case hg => exact Glob.below HG.out (below_alloc (Below.refl _ _) _)); rintro e w1 ⟨rfl, hb1⟩; have hlt : w.heap.size < w1.heap.size := (by have := hb1.size; simp at this; omega); have hc := fun j => hb1.cell (p := ⟨w.heap.size, j, none⟩) (by simp); have hz := fun j => hb1.frozen (p := ⟨w.heap.size, j, none⟩) (by simp); have HB := Aside0.mk (below_step (below_alloc (Below.refl _ _) _) hb1); clear hb1)
        refine bodyPost_ret (v := .tuple #[.agg #[.int .i64 q1, .int .i64 q2, .int .i64 q3, .int .i64 q4, .int .u64 q5, .int .u64 q6, .int .u64 q7, .nilFunc], .int .i64 0]) (by simp [results, Tryd.results46, go_sem, hc, hlt]) rfl ⟨by rw [← HE.out], ?_⟩
        repeat (with_reducible first | exact HB.out | apply below_alloc | refine below_set ?_ (Nat.le_refl _))
    · simp only [if_neg c3] at hE
      have b3 : (q1 == 3) = false := beq_eq_false_iff_ne.2 c3
      by_cases ca : a1 > q5
      · simp only [if_pos ca] at hE
        have ba : decide (q5 < a1) = true := decide_eq_true ca
        have HE := Aside0.mk hE
        clear c8 c3 ca hE
        go_enter Tryd.func46, Tryd.ntmps46
        go_wp2_with (go_at_call 49; (with_reducible refine (of_nil a0 q1 q2 q3 q4 q5 q6 q7 q8 _ ?hg HF.out HN.out).mono ?_); (case hg => exact Glob.below HG.out (below_alloc (Below.refl _ _) _)); rintro e w1 ⟨rfl, hb1⟩; have hlt : w.heap.size < w1.heap.size := (by have := hb1.size; simp at this; omega); have hc := fun j => hb1.cell (p := ⟨w.heap.size, j, none⟩) (by simp); have hz := fun j => hb1.frozen (p := ⟨w.heap.size, j, none⟩) (by simp); have HB := Aside0.mk (below_step (below_alloc (Below.refl _ _) _) hb1); clear hb1)
        refine bodyPost_ret (v := .tuple #[.agg #[.int .i64 q1, .int .i64 q2, .int .i64 q3, .int .i64 q4, .int .u64 q5, .int .u64 q6, .int .u64 q7, .nilFunc], .int .i64 4]) (by simp [results, Tryd.results46, go_sem, hc, hlt]) rfl ⟨by rw [← HE.out], ?_⟩
        repeat (with_reducible first | exact HB.out | apply below_alloc | refine below_set ?_ (Nat.le_refl _))
      · simp only [if_neg ca] at hE
        have ba : decide (q5 < a1) = false := decide_eq_false ca
        have HE := Aside0.mk hE
        clear c8 c3 ca hE
        go_enter Tryd.func46, Tryd.ntmps46
        go_wp2_with (go_at_call 49; (with_reducible refine (of_nil a0 q1 q2 q3 q4 q5 q6 q7 q8 _ ?hg HF.out HN.out).mono ?_); (case hg => exact Glob.below HG.out (below_alloc (Below.refl _ _) _)); rintro e w1 ⟨rfl, hb1⟩; have hlt : w.heap.size < w1.heap.size := (by have := hb1.size; simp at this; omega); have hc := fun j => hb1.cell (p := ⟨w.heap.size, j, none⟩) (by simp); have hz := fun j => hb1.frozen (p := ⟨w.heap.size, j, none⟩) (by simp); have HB := Aside0.mk (below_step (below_alloc (Below.refl _ _) _) hb1); clear hb1)
        refine bodyPost_ret (v := .tuple #[.agg #[.int .i64 q1, .int .i64 q2, .int .i64 q3, .int .i64 q4, .int .u64 q5, .int .u64 q6, .int .u64 q7, .nilFunc], .int .i64 0]) (by simp [results, Tryd.results46, go_sem, hc, hlt]) rfl ⟨by rw [← HE.out], ?_⟩
        repeat (with_reducible first | exact HB.out | apply below_alloc | refine below_set ?_ (Nat.le_refl _))
  · simp only [if_neg c8] at hE
    have b8 : (q8 == 0) = false := beq_eq_false_iff_ne.2 c8
    have b8' : (q8 != 0) = true := bne_iff_ne.2 c8
    have HE := Aside0.mk hE
    clear c8 hE
    go_enter Tryd.func46, Tryd.ntmps46
    go_wp2_with (go_at_call 49; (with_reducible refine (of_nil a0 q1 q2 q3 q4 q5 q6 q7 q8 _ ?hg HF.out HN.out).mono ?_); (case hg => exact Glob.below HG.out (below_alloc (Below.refl _ _) _)); rintro e w1 ⟨rfl, hb1⟩; have hlt : w.heap.size < w1.heap.size := (by have := hb1.size; simp at this; omega); have hc := fun j => hb1.cell (p := ⟨w.heap.size, j, none⟩) (by simp); have hz := fun j => hb1.frozen (p := ⟨w.heap.size, j, none⟩) (by simp); have HB := Aside0.mk (below_step (below_alloc (Below.refl _ _) _) hb1); clear hb1)
    refine bodyPost_ret (v := .tuple #[.agg #[.int .i64 q1, .int .i64 q2, .int .i64 q3, .int .i64 q4, .int .u64 q5, .int .u64 q6, .int .u64 q7, .nilFunc], .int .i64 q8]) (by simp [results, Tryd.results46, go_sem, hc, hlt]) rfl ⟨by rw [← HE.out], ?_⟩
    repeat (with_reducible first | exact HB.out | apply below_alloc | refine below_set ?_ (Nat.le_refl _))

/-- The boundary behind a magnitude: M, E, error. -/
def value_Between.g (a1 q1 q2 q3 q4 q5 q8 : Int) : Option (Int × Int × Int) :=
  if fitsE a1 q1 q5 q8 = 0 then (numF q1 q2 q3 q4 1 (IntKind.u64.wrap (IntKind.u64.wrap (2 * a1) + 1))).bind fun r => some (r.1, r.2, 0) else some (0, 0, fitsE a1 q1 q5 q8)
def value_Between.f (a0 a1 : Int) : Option (Int × Int × Int) := (forms_Of.f a0).bind fun q => value_Between.g a1 q.1 q.2.1 q.2.2.1 q.2.2.2.1 q.2.2.2.2.1 q.2.2.2.2.2.2.2
set_option maxHeartbeats 2000000 in
set_option maxRecDepth 100000 in
theorem value_Between.calls (a0 a1 r1 r2 r3 : Int) (w : World) (hG : Glob w) (h : value_Between.f a0 a1 = some (r1, r2, r3)) :
    Calls Tryd.prog 20 #[.int .i64 a0, .int .u64 a1] w fun e w' => e = .returned (.tuple #[.int .u64 r1, .int .i64 r2, .int .i64 r3]) ∧ Below w.heap.size w w' := by
  obtain ⟨⟨q1, q2, q3, q4, q5, q6, q7, q8⟩, hf, h⟩ := Option.bind_eq_some_iff.1 h
  replace h : value_Between.g a1 q1 q2 q3 q4 q5 q8 = some (r1, r2, r3) := h
  unfold value_Between.g at h
  have HG := Aside0.mk hG
  have HF := Aside0.mk hf
  clear hG hf
  by_cases c0 : fitsE a1 q1 q5 q8 = 0
  · simp only [if_pos c0] at h
    obtain ⟨⟨m, e⟩, hn, h⟩ := Option.bind_eq_some_iff.1 h
    simp only [Option.some.injEq, Prod.mk.injEq] at h
    obtain ⟨rfl, rfl, rfl⟩ := h
    have HE := Aside0.mk c0
    clear c0
    unfold numF at hn
    by_cases c1 : q1 = 1
    · simp only [if_pos c1] at hn
      have HM := Aside0.mk hn
      clear hn
      have HN : Aside0 (fnOf q1 = .func (.func 87) #[] #[]) := ⟨by rw [c1]; rfl⟩
      clear c1
      go_enter Tryd.func20, Tryd.ntmps20
      go_wp2_with (first | (go_at_call 46; (with_reducible refine (fits_func (.func 87) a0 a1 q1 q2 q3 q4 q5 q6 q7 q8 _ HG.out HF.out HN.out).mono ?_); rw [HE.out]; rintro e w1 ⟨rfl, hb1⟩; have HB := Aside0.mk hb1; clear hb1) | (go_at_call 87; (with_reducible refine (num1 q1 q2 q3 q4 q5 q6 q7 1 _ m e _ ?hg HM.out).mono ?_); (case hg => exact Glob.below HG.out (below_alloc HB.out _)); rintro e_ w2 ⟨rfl, hb2⟩; have HB2 := Aside0.mk (below_step (below_alloc HB.out _) hb2); clear hb2 HB))
      go_ret3
      exact ⟨rfl, by repeat (with_reducible first | exact HB2.out | apply below_alloc | apply pw_below_drewN | apply below_drew1)⟩
    simp only [if_neg c1] at hn
    by_cases c2 : q1 = 2
    · simp only [if_pos c2] at hn
      obtain ⟨⟨m', e', r3⟩, hn', h'⟩ := Option.bind_eq_some_iff.1 hn
      simp only [Option.some.injEq, Prod.mk.injEq] at h'
      obtain ⟨rfl, rfl⟩ := h'
      have HM := Aside0.mk hn'
      clear hn hn'
      have HN : Aside0 (fnOf q1 = .func (.func 89) #[] #[]) := ⟨by rw [c2]; rfl⟩
      clear c1 c2
      go_enter Tryd.func20, Tryd.ntmps20
      go_wp2_with (first | (go_at_call 46; (with_reducible refine (fits_func (.func 89) a0 a1 q1 q2 q3 q4 q5 q6 q7 q8 _ HG.out HF.out HN.out).mono ?_); rw [HE.out]; rintro e w1 ⟨rfl, hb1⟩; have HB := Aside0.mk hb1; clear hb1) | (go_at_call 89; (with_reducible refine (num2 q1 q2 q3 q4 q5 q6 q7 1 _ m' e' r3 _ ?hg HM.out).mono ?_); (case hg => exact Glob.below HG.out (below_alloc HB.out _)); rintro e_ w2 ⟨rfl, hb2⟩; have HB2 := Aside0.mk (below_step (below_alloc HB.out _) hb2); clear hb2 HB))
      go_ret3
      exact ⟨rfl, by repeat (with_reducible first | exact HB2.out | apply below_alloc | apply pw_below_drewN | apply below_drew1)⟩
    simp only [if_neg c2] at hn
    by_cases c3 : q1 = 3
    · simp only [if_pos c3] at hn
      have HM := Aside0.mk hn
      clear hn
      have HN : Aside0 (fnOf q1 = .func (.func 91) #[] #[]) := ⟨by rw [c3]; rfl⟩
      clear c1 c2 c3
      go_enter Tryd.func20, Tryd.ntmps20
      go_wp2_with (first | (go_at_call 46; (with_reducible refine (fits_func (.func 91) a0 a1 q1 q2 q3 q4 q5 q6 q7 q8 _ HG.out HF.out HN.out).mono ?_); rw [HE.out]; rintro e w1 ⟨rfl, hb1⟩; have HB := Aside0.mk hb1; clear hb1) | (go_at_call 91; (with_reducible refine (num3 q1 q2 q3 q4 q5 q6 q7 1 _ m e _ ?hg HM.out).mono ?_); (case hg => exact Glob.below HG.out (below_alloc HB.out _)); rintro e_ w2 ⟨rfl, hb2⟩; have HB2 := Aside0.mk (below_step (below_alloc HB.out _) hb2); clear hb2 HB))
      go_ret3
      exact ⟨rfl, by repeat (with_reducible first | exact HB2.out | apply below_alloc | apply pw_below_drewN | apply below_drew1)⟩
    simp only [if_neg c3] at hn
    by_cases c4 : q1 = 4
    · simp only [if_pos c4, Option.some.injEq, Prod.mk.injEq] at hn
      simp only [show ¬ (1 : Int) = 0 by decide, if_false, if_true, Option.some.injEq, Prod.mk.injEq] at hn
      obtain ⟨rfl, rfl⟩ := hn
      have HN : Aside0 (fnOf q1 = .func (.func 93) #[] #[]) := ⟨by rw [c4]; rfl⟩
      clear c1 c2 c3 c4
      go_enter Tryd.func20, Tryd.ntmps20
      go_wp2_with (first | (go_at_call 46; (with_reducible refine (fits_func (.func 93) a0 a1 q1 q2 q3 q4 q5 q6 q7 q8 _ HG.out HF.out HN.out).mono ?_); rw [HE.out]; rintro e w1 ⟨rfl, hb1⟩; have HB := Aside0.mk hb1; clear hb1) | (go_at_call 93; (with_reducible refine (num4_1 q1 q2 q3 q4 q5 q6 q7 _ _).mono ?_); rintro e_ w2 ⟨rfl, hb2⟩; have HB2 := Aside0.mk (below_step (below_alloc HB.out _) hb2); clear hb2 HB))
      go_ret3
      exact ⟨rfl, by repeat (with_reducible first | exact HB2.out | apply below_alloc | apply pw_below_drewN | apply below_drew1)⟩
    · simp only [if_neg c4] at hn
      cases hn
  · simp only [if_neg c0, Option.some.injEq, Prod.mk.injEq] at h
    obtain ⟨rfl, rfl, rfl⟩ := h
    obtain ⟨c, hE⟩ : ∃ c, fitsE a1 q1 q5 q8 = c := ⟨_, rfl⟩
    rw [hE] at c0 ⊢
    have HE := Aside0.mk hE
    have b0 : (c == 0) = false := beq_eq_false_iff_ne.2 c0
    have b0' : (c != 0) = true := bne_iff_ne.2 c0
    clear c0 hE
    rcases fnOf_form q1 with hn | ⟨fn, hn⟩
    · have HN := Aside0.mk hn
      clear hn
      go_enter Tryd.func20, Tryd.ntmps20
      go_wp2_with (go_at_call 46; (with_reducible refine (fits_nil a0 a1 q1 q2 q3 q4 q5 q6 q7 q8 _ HG.out HF.out HN.out).mono ?_); rw [HE.out]; rintro e w1 ⟨rfl, hb1⟩; have HB := Aside0.mk hb1; clear hb1)
      go_ret3
      exact ⟨rfl, below_alloc HB.out _⟩
    · have HN := Aside0.mk hn
      clear hn
      go_enter Tryd.func20, Tryd.ntmps20
      go_wp2_with (go_at_call 46; (with_reducible refine (fits_func fn a0 a1 q1 q2 q3 q4 q5 q6 q7 q8 _ HG.out HF.out HN.out).mono ?_); rw [HE.out]; rintro e w1 ⟨rfl, hb1⟩; have HB := Aside0.mk hb1; clear hb1)
      go_ret3
      exact ⟨rfl, below_alloc HB.out _⟩

end Go.Proofs.YtmcodbgbjjldnaaDoor.Pr
