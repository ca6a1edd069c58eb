/- Contracts by hand: the four ways of value.numbers, shape.parts, shape.class. -/
import Derived.Test.YtmcodbgbjjldnaaDoorGivQ
import Derived.Test.YtmcodbgbjjldnaaDoorGivD
import Derived.Test.YtmcodbgbjjldnaaDoorPrx1
set_option linter.unusedVariables false
set_option linter.unusedSimpArgs false
namespace Go.Proofs.YtmcodbgbjjldnaaDoor.Pr
open Go.RowKit Go.Proofs.YtmcodbgbjjldnaaDoorW.PrintWords Go.Proofs.YtmcodbgbjjldnaaDoorW.PrintLast Go.Proofs.YtmcodbgbjjldnaaDoorW.PrintMore

set_option maxHeartbeats 8000000 in
set_option maxRecDepth 100000 in
theorem num1 (q1 q2 q3 q4 q5 q6 q7 more key m e : Int) (w : World) (hG : Glob w) (h : posit_value.f 9 (wrap64 (q2 + more)) key = some (m, e)) :
    Calls Tryd.prog 87 #[.agg #[.int .i64 q1, .int .i64 q2, .int .i64 q3, .int .i64 q4, .int .u64 q5, .int .u64 q6, .int .u64 q7], .int .i64 more, .int .u64 key] w fun e_ w' => e_ = .returned (.tuple #[.int .u64 m, .int .i64 e]) ∧ Below w.heap.size w w' := by
  have HG := Aside0.mk hG
  have HF := Aside0.mk h
  clear hG h
  go_enter Tryd.func87, Tryd.ntmps87
  go_wp2_with (go_at_call 88; (with_reducible refine (posit_Value.calls 9 _ key m e _ ?hg HF.out).mono ?_); (case hg => exact Glob.below HG.out (below_alloc (Below.refl _ _) _)); rintro e_ w1 ⟨rfl, hb1⟩)
  go_ret2
  exact ⟨rfl, below_step (below_alloc (Below.refl _ _) _) hb1⟩

set_option maxHeartbeats 8000000 in
set_option maxRecDepth 100000 in
theorem num2 (q1 q2 q3 q4 q5 q6 q7 more key m e r3 : Int) (w : World) (hG : Glob w) (h : mini_Value.f 9 (wrap64 (q3 + more)) q4 key = some (m, e, r3)) :
    Calls Tryd.prog 89 #[.agg #[.int .i64 q1, .int .i64 q2, .int .i64 q3, .int .i64 q4, .int .u64 q5, .int .u64 q6, .int .u64 q7], .int .i64 more, .int .u64 key] w fun e_ w' => e_ = .returned (.tuple #[.int .u64 m, .int .i64 e]) ∧ Below w.heap.size w w' := by
  have HG := Aside0.mk hG
  have HF := Aside0.mk h
  clear hG h
  go_enter Tryd.func89, Tryd.ntmps89
  go_wp2_with (go_at_call 90; (with_reducible refine (mini_Value.calls 9 _ q4 key m e r3 _ ?hg HF.out).mono ?_); (case hg => exact Glob.below HG.out (below_alloc (Below.refl _ _) _)); rintro e_ w1 ⟨rfl, hb1⟩)
  go_ret2
  exact ⟨rfl, below_step (below_alloc (Below.refl _ _) _) hb1⟩

set_option maxHeartbeats 8000000 in
set_option maxRecDepth 100000 in
theorem num3 (q1 q2 q3 q4 q5 q6 q7 more key m e : Int) (w : World) (hG : Glob w) (h : value_odd.f key (wrap64 (wrap64 (-q3) - more)) = some (m, e)) :
    Calls Tryd.prog 91 #[.agg #[.int .i64 q1, .int .i64 q2, .int .i64 q3, .int .i64 q4, .int .u64 q5, .int .u64 q6, .int .u64 q7], .int .i64 more, .int .u64 key] w fun e_ w' => e_ = .returned (.tuple #[.int .u64 m, .int .i64 e]) ∧ Below w.heap.size w w' := by
  have HG := Aside0.mk hG
  have HF := Aside0.mk h
  clear hG h
  go_enter Tryd.func91, Tryd.ntmps91
  go_wp2_with (go_at_call 92; (with_reducible refine (value_odd.calls key _ m e _ ?hg HF.out).mono ?_); (case hg => exact Glob.below HG.out (below_alloc (Below.refl _ _) _)); rintro e_ w1 ⟨rfl, hb1⟩)
  go_ret2
  exact ⟨rfl, below_step (below_alloc (Below.refl _ _) _) hb1⟩

set_option maxHeartbeats 8000000 in
set_option maxRecDepth 100000 in
theorem num4_0 (q1 q2 q3 q4 q5 q6 q7 key : Int) (w : World) :
    Calls Tryd.prog 93 #[.agg #[.int .i64 q1, .int .i64 q2, .int .i64 q3, .int .i64 q4, .int .u64 q5, .int .u64 q6, .int .u64 q7], .int .i64 0, .int .u64 key] w fun e_ w' => e_ = .returned (.tuple #[.int .u64 1, .int .i64 (wrap64 (wrap64 (wrap64 key - q4)))]) ∧ Below w.heap.size w w' := by
  go_enter Tryd.func93, Tryd.ntmps93
  go_wp2
  go_quiet (fail)
  go_wp2
  go_ret2
  exact ⟨by first | rfl | (simp; done) | trace_state, pw_below_drewN (below_alloc (Below.refl _ _) _) _⟩

set_option maxHeartbeats 8000000 in
set_option maxRecDepth 100000 in
theorem num4_1 (q1 q2 q3 q4 q5 q6 q7 key : Int) (w : World) :
    Calls Tryd.prog 93 #[.agg #[.int .i64 q1, .int .i64 q2, .int .i64 q3, .int .i64 q4, .int .u64 q5, .int .u64 q6, .int .u64 q7], .int .i64 1, .int .u64 key] w fun e_ w' => e_ = .returned (.tuple #[.int .u64 3, .int .i64 (wrap64 (wrap64 (wrap64 (key / 2) - q4) - 1))]) ∧ Below w.heap.size w w' := by
  go_enter Tryd.func93, Tryd.ntmps93
  go_wp2
  go_quiet (fail)
  go_wp2
  go_ret2
  exact ⟨by first | rfl | (simp; done) | trace_state, pw_below_drewN (below_alloc (Below.refl _ _) _) _⟩

/-- The sign and the magnitude of a pattern. -/
def partsF (q1 q2 q3 q4 q5 q6 q7 p : Int) : Option (Bool × Int) :=
  (forms_Form_Sign.f q1 q2 q3 q4 q5 q6 q7).bind fun s => if Go.bits .and .u64 p s = 0 then some (false, p) else if q1 = 2 then some (true, Go.bits .andNot .u64 p s)
    else (forms_Form_Mask.f q1 q2 q3 q4 q5 q6 q7).bind fun m => some (true, Go.bits .and .u64 (IntKind.u64.wrap (-p)) m)
set_option maxHeartbeats 8000000 in
set_option maxRecDepth 100000 in
theorem parts_func (fn : Fn) (q1 q2 q3 q4 q5 q6 q7 p : Int) (r1 : Bool) (r2 : Int) (w : World) (h : partsF q1 q2 q3 q4 q5 q6 q7 p = some (r1, r2)) :
    Calls Tryd.prog 51 #[.agg #[.int .i64 q1, .int .i64 q2, .int .i64 q3, .int .i64 q4, .int .u64 q5, .int .u64 q6, .int .u64 q7, .func fn #[] #[]], .int .u64 p] w fun e w' => e = .returned (.tuple #[.bool r1, .int .u64 r2]) ∧ Below w.heap.size w w' := by
  unfold partsF at h
  obtain ⟨s, hs, h⟩ := Option.bind_eq_some_iff.1 h
  have HS := Aside0.mk hs
  clear hs
  by_cases c0 : Go.bits .and .u64 p s = 0
  · simp only [if_pos c0, Option.some.injEq, Prod.mk.injEq] at h
    obtain ⟨rfl, rfl⟩ := h
    have b0 : (Go.bits .and .u64 p s == 0) = true := beq_iff_eq.2 c0
    clear c0
    go_enter Tryd.func51, Tryd.ntmps51
    go_wp2_with (go_at_call 24; (with_reducible refine (forms_Form_Sign.calls q1 q2 q3 q4 q5 q6 q7 s _ HS.out).mono ?_); rintro e w1 ⟨rfl, hb1⟩; have hc := fun j => hb1.cell (p := ⟨w.heap.size, j, none⟩) (by simp); have hlt : w.heap.size < w1.heap.size := (by have := hb1.size; simp at this; omega); have HB := Aside0.mk (below_step (below_alloc (Below.refl _ _) _) hb1); clear hb1)
    go_ret2
    exact ⟨rfl, HB.out⟩
  · simp only [if_neg c0] at h
    have b0 : (Go.bits .and .u64 p s == 0) = false := beq_eq_false_iff_ne.2 c0
    clear c0
    by_cases c2 : q1 = 2
    · simp only [if_pos c2, Option.some.injEq, Prod.mk.injEq] at h
      obtain ⟨rfl, rfl⟩ := h
      have b2 : (q1 == 2) = true := beq_iff_eq.2 c2
      clear c2
      go_enter Tryd.func51, Tryd.ntmps51
      go_wp2_with (first | (go_at_call 24; (with_reducible refine (forms_Form_Sign.calls q1 q2 q3 q4 q5 q6 q7 s _ HS.out).mono ?_); rintro e w2 ⟨rfl, hb2⟩; have HB2 := Aside0.mk (below_step HB.out hb2); clear hb2 HB) | (go_at_call 24; (with_reducible refine (forms_Form_Sign.calls q1 q2 q3 q4 q5 q6 q7 s _ HS.out).mono ?_); rintro e w1 ⟨rfl, hb1⟩; have hc := fun j => hb1.cell (p := ⟨w.heap.size, j, none⟩) (by simp); have hlt : w.heap.size < w1.heap.size := (by have := hb1.size; simp at this; omega); have HB := Aside0.mk (below_step (below_alloc (Below.refl _ _) _) hb1); clear hb1))
      go_ret2
      exact ⟨rfl, HB2.out⟩
    · simp only [if_neg c2] at h
      obtain ⟨m, hm, h⟩ := Option.bind_eq_some_iff.1 h
      simp only [Option.some.injEq, Prod.mk.injEq] at h
      obtain ⟨rfl, rfl⟩ := h
      have HM := Aside0.mk hm
      have b2 : (q1 == 2) = false := beq_eq_false_iff_ne.2 c2
      clear c2 hm
      go_enter Tryd.func51, Tryd.ntmps51
      go_wp2_with (first | (go_at_call 24; (with_reducible refine (forms_Form_Sign.calls q1 q2 q3 q4 q5 q6 q7 s _ HS.out).mono ?_); rintro e w1 ⟨rfl, hb1⟩; have hc := fun j => hb1.cell (p := ⟨w.heap.size, j, none⟩) (by simp); have hlt : w.heap.size < w1.heap.size := (by have := hb1.size; simp at this; omega); have HB := Aside0.mk (below_step (below_alloc (Below.refl _ _) _) hb1); clear hb1) | (go_at_call 25; (with_reducible refine (forms_Form_Mask.calls q1 q2 q3 q4 q5 q6 q7 m _ HM.out).mono ?_); rintro e w2 ⟨rfl, hb2⟩; have HB2 := Aside0.mk (below_step HB.out hb2); clear hb2 HB))
      go_ret2
      exact ⟨rfl, HB2.out⟩

/-- What a pattern is. -/
def classF (q1 q5 q6 q7 p key : Int) : Int :=
  if q1 = 2 then (if key = q6 then (if q6 = 0 then (if key > q5 then 4 else if key = 0 then 1 else 2) else 3) else if key > q5 then 4 else if key = 0 then 1 else 2)
  else if q7 = 0 then (if key = 0 then (if q1 = 4 then 2 else 1) else 2) else if p = q7 then 4 else if key = 0 then (if q1 = 4 then 2 else 1) else 2
set_option maxHeartbeats 8000000 in
set_option maxRecDepth 100000 in
theorem class_func (fn : Fn) (q1 q2 q3 q4 q5 q6 q7 p key : Int) (w : World) :
    Calls Tryd.prog 52 #[.agg #[.int .i64 q1, .int .i64 q2, .int .i64 q3, .int .i64 q4, .int .u64 q5, .int .u64 q6, .int .u64 q7, .func fn #[] #[]], .int .u64 p, .int .u64 key] w fun e w' => e = .returned (.int .i64 (classF q1 q5 q6 q7 p key)) ∧ Below w.heap.size w w' := by
  obtain ⟨c, hC⟩ : ∃ c, classF q1 q5 q6 q7 p key = c := ⟨_, rfl⟩
  rw [hC]
  unfold classF at hC
  by_cases c2 : q1 = 2
  · simp only [if_pos c2] at hC
    have c2_0 : (q1 == 2) = true := beq_iff_eq.2 c2
    have c2_1 : (q1 != 2) = false := bne_eq_false_iff_eq.2 c2
    have c2_2 : (q1 == 4) = false := by rw [c2]; rfl
    have c2_3 : (q1 != 4) = true := by rw [c2]; rfl
    by_cases e6 : key = q6
    · simp only [if_pos e6] at hC
      have e6_0 : (key == q6) = true := beq_iff_eq.2 e6
      have e6_1 : (key != q6) = false := bne_eq_false_iff_eq.2 e6
      by_cases n6 : q6 = 0
      · simp only [if_pos n6] at hC
        have n6_0 : (q6 == 0) = true := beq_iff_eq.2 n6
        have n6_1 : (q6 != 0) = false := bne_eq_false_iff_eq.2 n6
        by_cases g5 : key > q5
        · simp only [if_pos g5] at hC
          have g5_0 : decide (q5 < key) = true := decide_eq_true g5
          have HC := Aside0.mk hC
          clear hC c2 e6 n6 g5
          go_enter Tryd.func52, Tryd.ntmps52
          go_wp2
          try go_quiet (fail)
          try go_wp2
          try go_quiet (fail)
          try go_wp2
          try go_quiet (fail)
          try go_wp2
          go_ret
          exact ⟨by rw [← HC.out]; rfl, by repeat (with_reducible first | exact Below.refl _ _ | apply below_alloc | apply pw_below_drewN | apply below_drew1)⟩
        · simp only [if_neg g5] at hC
          have g5_0 : decide (q5 < key) = false := decide_eq_false g5
          by_cases z0 : key = 0
          · simp only [if_pos z0] at hC
            have z0_0 : (key == 0) = true := beq_iff_eq.2 z0
            have z0_1 : (key != 0) = false := bne_eq_false_iff_eq.2 z0
            have HC := Aside0.mk hC
            clear hC c2 e6 n6 g5 z0
            go_enter Tryd.func52, Tryd.ntmps52
            go_wp2
            try go_quiet (fail)
            try go_wp2
            try go_quiet (fail)
            try go_wp2
            try go_quiet (fail)
            try go_wp2
            go_ret
            exact ⟨by rw [← HC.out]; rfl, by repeat (with_reducible first | exact Below.refl _ _ | apply below_alloc | apply pw_below_drewN | apply below_drew1)⟩
          · simp only [if_neg z0] at hC
            have z0_0 : (key == 0) = false := beq_eq_false_iff_ne.2 z0
            have z0_1 : (key != 0) = true := bne_iff_ne.2 z0
            have HC := Aside0.mk hC
            clear hC c2 e6 n6 g5 z0
            go_enter Tryd.func52, Tryd.ntmps52
            go_wp2
            try go_quiet (fail)
            try go_wp2
            try go_quiet (fail)
            try go_wp2
            try go_quiet (fail)
            try go_wp2
            go_ret
            exact ⟨by rw [← HC.out]; rfl, by repeat (with_reducible first | exact Below.refl _ _ | apply below_alloc | apply pw_below_drewN | apply below_drew1)⟩
      · simp only [if_neg n6] at hC
        have n6_0 : (q6 == 0) = false := beq_eq_false_iff_ne.2 n6
        have n6_1 : (q6 != 0) = true := bne_iff_ne.2 n6
        have HC := Aside0.mk hC
        clear hC c2 e6 n6
        go_enter Tryd.func52, Tryd.ntmps52
        go_wp2
        try go_quiet (fail)
        try go_wp2
        try go_quiet (fail)
        try go_wp2
        try go_quiet (fail)
        try go_wp2
        go_ret
        exact ⟨by rw [← HC.out]; rfl, by repeat (with_reducible first | exact Below.refl _ _ | apply below_alloc | apply pw_below_drewN | apply below_drew1)⟩
    · simp only [if_neg e6] at hC
      have e6_0 : (key == q6) = false := beq_eq_false_iff_ne.2 e6
      have e6_1 : (key != q6) = true := bne_iff_ne.2 e6
      by_cases g5 : key > q5
      · simp only [if_pos g5] at hC
        have g5_0 : decide (q5 < key) = true := decide_eq_true g5
        have HC := Aside0.mk hC
        clear hC c2 e6 g5
        go_enter Tryd.func52, Tryd.ntmps52
        go_wp2
        try go_quiet (fail)
        try go_wp2
        try go_quiet (fail)
        try go_wp2
        try go_quiet (fail)
        try go_wp2
        go_ret
        exact ⟨by rw [← HC.out]; rfl, by repeat (with_reducible first | exact Below.refl _ _ | apply below_alloc | apply pw_below_drewN | apply below_drew1)⟩
      · simp only [if_neg g5] at hC
        have g5_0 : decide (q5 < key) = false := decide_eq_false g5
        by_cases z0 : key = 0
        · simp only [if_pos z0] at hC
          have z0_0 : (key == 0) = true := beq_iff_eq.2 z0
          have z0_1 : (key != 0) = false := bne_eq_false_iff_eq.2 z0
          have HC := Aside0.mk hC
          clear hC c2 e6 g5 z0
          go_enter Tryd.func52, Tryd.ntmps52
          go_wp2
          try go_quiet (fail)
          try go_wp2
          try go_quiet (fail)
          try go_wp2
          try go_quiet (fail)
          try go_wp2
          go_ret
          exact ⟨by rw [← HC.out]; rfl, by repeat (with_reducible first | exact Below.refl _ _ | apply below_alloc | apply pw_below_drewN | apply below_drew1)⟩
        · simp only [if_neg z0] at hC
          have z0_0 : (key == 0) = false := beq_eq_false_iff_ne.2 z0
          have z0_1 : (key != 0) = true := bne_iff_ne.2 z0
          have HC := Aside0.mk hC
          clear hC c2 e6 g5 z0
          go_enter Tryd.func52, Tryd.ntmps52
          go_wp2
          try go_quiet (fail)
          try go_wp2
          try go_quiet (fail)
          try go_wp2
          try go_quiet (fail)
          try go_wp2
          go_ret
          exact ⟨by rw [← HC.out]; rfl, by repeat (with_reducible first | exact Below.refl _ _ | apply below_alloc | apply pw_below_drewN | apply below_drew1)⟩
  · simp only [if_neg c2] at hC
    have c2_0 : (q1 == 2) = false := beq_eq_false_iff_ne.2 c2
    have c2_1 : (q1 != 2) = true := bne_iff_ne.2 c2
    by_cases n7 : q7 = 0
    · simp only [if_pos n7] at hC
      have n7_0 : (q7 == 0) = true := beq_iff_eq.2 n7
      have n7_1 : (q7 != 0) = false := bne_eq_false_iff_eq.2 n7
      by_cases z0 : key = 0
      · simp only [if_pos z0] at hC
        have z0_0 : (key == 0) = true := beq_iff_eq.2 z0
        have z0_1 : (key != 0) = false := bne_eq_false_iff_eq.2 z0
        by_cases c4 : q1 = 4
        · simp only [if_pos c4] at hC
          have c4_0 : (q1 == 4) = true := beq_iff_eq.2 c4
          have c4_1 : (q1 != 4) = false := bne_eq_false_iff_eq.2 c4
          have HC := Aside0.mk hC
          clear hC c2 n7 z0 c4
          go_enter Tryd.func52, Tryd.ntmps52
          go_wp2
          try go_quiet (fail)
          try go_wp2
          try go_quiet (fail)
          try go_wp2
          try go_quiet (fail)
          try go_wp2
          go_ret
          exact ⟨by rw [← HC.out]; rfl, by repeat (with_reducible first | exact Below.refl _ _ | apply below_alloc | apply pw_below_drewN | apply below_drew1)⟩
        · simp only [if_neg c4] at hC
          have c4_0 : (q1 == 4) = false := beq_eq_false_iff_ne.2 c4
          have c4_1 : (q1 != 4) = true := bne_iff_ne.2 c4
          have HC := Aside0.mk hC
          clear hC c2 n7 z0 c4
          go_enter Tryd.func52, Tryd.ntmps52
          go_wp2
          try go_quiet (fail)
          try go_wp2
          try go_quiet (fail)
          try go_wp2
          try go_quiet (fail)
          try go_wp2
          go_ret
          exact ⟨by rw [← HC.out]; rfl, by repeat (with_reducible first | exact Below.refl _ _ | apply below_alloc | apply pw_below_drewN | apply below_drew1)⟩
      · simp only [if_neg z0] at hC
        have z0_0 : (key == 0) = false := beq_eq_false_iff_ne.2 z0
        have z0_1 : (key != 0) = true := bne_iff_ne.2 z0
        have HC := Aside0.mk hC
        clear hC c2 n7 z0
        go_enter Tryd.func52, Tryd.ntmps52
        go_wp2
        try go_quiet (fail)
        try go_wp2
        try go_quiet (fail)
        try go_wp2
        try go_quiet (fail)
        try go_wp2
        go_ret
        exact ⟨by rw [← HC.out]; rfl, by repeat (with_reducible first | exact Below.refl _ _ | apply below_alloc | apply pw_below_drewN | apply below_drew1)⟩
    · simp only [if_neg n7] at hC
      have n7_0 : (q7 == 0) = false := beq_eq_false_iff_ne.2 n7
      have n7_1 : (q7 != 0) = true := bne_iff_ne.2 n7
      by_cases p7 : p = q7
      · simp only [if_pos p7] at hC
        have p7_0 : (p == q7) = true := beq_iff_eq.2 p7
        have p7_1 : (p != q7) = false := bne_eq_false_iff_eq.2 p7
        have HC := Aside0.mk hC
        clear hC c2 n7 p7
        go_enter Tryd.func52, Tryd.ntmps52
        go_wp2
        try go_quiet (fail)
        try go_wp2
        try go_quiet (fail)
        try go_wp2
        try go_quiet (fail)
        try go_wp2
        go_ret
        exact ⟨by rw [← HC.out]; rfl, by repeat (with_reducible first | exact Below.refl _ _ | apply below_alloc | apply pw_below_drewN | apply below_drew1)⟩
      · simp only [if_neg p7] at hC
        have p7_0 : (p == q7) = false := beq_eq_false_iff_ne.2 p7
        have p7_1 : (p != q7) = true := bne_iff_ne.2 p7
        by_cases z0 : key = 0
        · simp only [if_pos z0] at hC
          have z0_0 : (key == 0) = true := beq_iff_eq.2 z0
          have z0_1 : (key != 0) = false := bne_eq_false_iff_eq.2 z0
          by_cases c4 : q1 = 4
          · simp only [if_pos c4] at hC
            have c4_0 : (q1 == 4) = true := beq_iff_eq.2 c4
            have c4_1 : (q1 != 4) = false := bne_eq_false_iff_eq.2 c4
            have HC := Aside0.mk hC
            clear hC c2 n7 p7 z0 c4
            go_enter Tryd.func52, Tryd.ntmps52
            go_wp2
            try go_quiet (fail)
            try go_wp2
            try go_quiet (fail)
            try go_wp2
            try go_quiet (fail)
            try go_wp2
            go_ret
            exact ⟨by rw [← HC.out]; rfl, by repeat (with_reducible first | exact Below.refl _ _ | apply below_alloc | apply pw_below_drewN | apply below_drew1)⟩
          · simp only [if_neg c4] at hC
            have c4_0 : (q1 == 4) = false := beq_eq_false_iff_ne.2 c4
            have c4_1 : (q1 != 4) = true := bne_iff_ne.2 c4
            have HC := Aside0.mk hC
            clear hC c2 n7 p7 z0 c4
            go_enter Tryd.func52, Tryd.ntmps52
            go_wp2
            try go_quiet (fail)
            try go_wp2
            try go_quiet (fail)
            try go_wp2
            try go_quiet (fail)
            try go_wp2
            go_ret
            exact ⟨by rw [← HC.out]; rfl, by repeat (with_reducible first | exact Below.refl _ _ | apply below_alloc | apply pw_below_drewN | apply below_drew1)⟩
        · simp only [if_neg z0] at hC
          have z0_0 : (key == 0) = false := beq_eq_false_iff_ne.2 z0
          have z0_1 : (key != 0) = true := bne_iff_ne.2 z0
          have HC := Aside0.mk hC
          clear hC c2 n7 p7 z0
          go_enter Tryd.func52, Tryd.ntmps52
          go_wp2
          try go_quiet (fail)
          try go_wp2
          try go_quiet (fail)
          try go_wp2
          try go_quiet (fail)
          try go_wp2
          go_ret
          exact ⟨by rw [← HC.out]; rfl, by repeat (with_reducible first | exact Below.refl _ _ | apply below_alloc | apply pw_below_drewN | apply below_drew1)⟩

end Go.Proofs.YtmcodbgbjjldnaaDoor.Pr
