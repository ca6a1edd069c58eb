import Derived.Test.YtmcodbgbjjldnaaDoorPrx0
import Derived.Test.YtmcodbgbjjldnaaDoorGivP
namespace Go.Proofs.YtmcodbgbjjldnaaDoor.Pr
open Go.RowKit Go.Proofs.YtmcodbgbjjldnaaDoorW.PrintWords Go.Proofs.YtmcodbgbjjldnaaDoorW.PrintLast Go.Proofs.YtmcodbgbjjldnaaDoorW.PrintMore
attribute [local go_sem] max2_int min2_int max_two min_two max_three min_three max_four min_four   -- for this text's walks alone
set_option linter.unusedVariables false
set_option linter.unusedSimpArgs false

def cmp_isNaN_int.f (a0 : Int) : Option (Bool) := some (a0 != a0)
set_option maxHeartbeats 8000000 in
set_option maxRecDepth 100000 in
theorem cmp_isNaN_int.calls (a0 : Int) (r : Bool) (w : World) (h : cmp_isNaN_int.f a0 = some r) :
    Calls Tryd.prog 81 #[.int .i64 a0] w fun e w' => e = .returned (.bool r) ∧ Drawn0 w w' := by
  have H : (some (a0 != a0)) = some r := h
  clear h
  obtain rfl := Option.some.inj H
  go_enter Tryd.func81, Tryd.ntmps81
  go_wp2
  go_ret
  exact ⟨by first | rfl | (simp; done) | (simp [*]; done), by repeat (first | exact Drawn0.refl _ | apply Drawn0.step)⟩

def cmp_Compare_int.f (a0 : Int) (a1 : Int) : Option (Int) := (cmp_isNaN_int.f a0).bind fun t101 => ((cmp_isNaN_int.f a1).bind fun t102 => (if t101 = true then (if t102 = true then (some 0) else (some (-1))) else (if t102 = true then (some 1) else (if a0 < a1 then (some (-1)) else (if a0 > a1 then (some 1) else (some 0))))))
set_option maxHeartbeats 8000000 in
set_option maxRecDepth 100000 in
theorem cmp_Compare_int.calls (a0 : Int) (a1 : Int) (r : Int) (w : World) (h : cmp_Compare_int.f a0 a1 = some r) :
    Calls Tryd.prog 65 #[.int .i64 a0, .int .i64 a1] w fun e w' => e = .returned (.int .i64 r) ∧ Drawn0 w w' := by
  have H : ((cmp_isNaN_int.f a0).bind fun t101 => ((cmp_isNaN_int.f a1).bind fun t102 => (if t101 = true then (if t102 = true then (some 0) else (some (-1))) else (if t102 = true then (some 1) else (if a0 < a1 then (some (-1)) else (if a0 > a1 then (some 1) else (some 0))))))) = some r := h
  clear h
  replace H := Option.bind_eq_some_iff.mp H
  obtain ⟨t101, A30, H⟩ := H
  replace H : ((cmp_isNaN_int.f a1).bind fun t102 => (if t101 = true then (if t102 = true then (some 0) else (some (-1))) else (if t102 = true then (some 1) else (if a0 < a1 then (some (-1)) else (if a0 > a1 then (some 1) else (some 0)))))) = some r := H
  have A3 := Aside0.mk A30
  clear A30
  replace H := Option.bind_eq_some_iff.mp H
  obtain ⟨t102, A40, H⟩ := H
  replace H : (if t101 = true then (if t102 = true then (some 0) else (some (-1))) else (if t102 = true then (some 1) else (if a0 < a1 then (some (-1)) else (if a0 > a1 then (some 1) else (some 0))))) = some r := H
  have A4 := Aside0.mk A40
  clear A40
  by_cases c5 : t101 = true
  · subst c5
    have H1 : (if t102 = true then (some 0) else (some (-1))) = some r := by rw [if_pos rfl] at H; exact H
    clear H
    have H := H1
    clear H1
    by_cases c6 : t102 = true
    · subst c6
      have H1 : (some 0) = some r := by rw [if_pos rfl] at H; exact H
      clear H
      have H := H1
      clear H1
      obtain rfl := Option.some.inj H
      go_enter Tryd.func65, Tryd.ntmps65
      go_wp2_with (first | ((with_reducible refine gate_callee (f := 81) rfl ?_); refine goesL_ (some 8) rfl rfl Tryd.func81 (by kernel_rfl) rfl #[.int .i64 a0] rfl (by (try simp only [List.map_toArray, List.map_cons, List.map_nil]); first | done | rfl | (simp only [List.length_drop, List.length_take]; rfl)) ?_; (with_reducible refine (cmp_isNaN_int.calls a0 true _ A3.out).mono ?_); rintro e w' ⟨rfl, ⟨nd, rfl⟩⟩; refine ⟨_, rfl, ?_⟩) | ((with_reducible refine gate_callee (f := 81) rfl ?_); refine goesL_ (some 10) rfl rfl Tryd.func81 (by kernel_rfl) rfl #[.int .i64 a1] rfl (by (try simp only [List.map_toArray, List.map_cons, List.map_nil]); first | done | rfl | (simp only [List.length_drop, List.length_take]; rfl)) ?_; (with_reducible refine (cmp_isNaN_int.calls a1 true _ A4.out).mono ?_); rintro e w' ⟨rfl, ⟨nd, rfl⟩⟩; refine ⟨_, rfl, ?_⟩))
      go_ret
      exact ⟨by first | rfl | (simp; done) | (simp [*]; done), by repeat (first | exact Drawn0.refl _ | apply Drawn0.step)⟩
    · replace c6 := Bool.eq_false_iff.mpr c6
      subst c6
      have H1 : (some (-1)) = some r := by rw [if_neg (show ¬ (false = true) by decide)] at H; exact H
      clear H
      have H := H1
      clear H1
      obtain rfl := Option.some.inj H
      go_enter Tryd.func65, Tryd.ntmps65
      go_wp2_with (first | ((with_reducible refine gate_callee (f := 81) rfl ?_); refine goesL_ (some 8) rfl rfl Tryd.func81 (by kernel_rfl) rfl #[.int .i64 a0] rfl (by (try simp only [List.map_toArray, List.map_cons, List.map_nil]); first | done | rfl | (simp only [List.length_drop, List.length_take]; rfl)) ?_; (with_reducible refine (cmp_isNaN_int.calls a0 true _ A3.out).mono ?_); rintro e w' ⟨rfl, ⟨nd, rfl⟩⟩; refine ⟨_, rfl, ?_⟩) | ((with_reducible refine gate_callee (f := 81) rfl ?_); refine goesL_ (some 10) rfl rfl Tryd.func81 (by kernel_rfl) rfl #[.int .i64 a1] rfl (by (try simp only [List.map_toArray, List.map_cons, List.map_nil]); first | done | rfl | (simp only [List.length_drop, List.length_take]; rfl)) ?_; (with_reducible refine (cmp_isNaN_int.calls a1 false _ A4.out).mono ?_); rintro e w' ⟨rfl, ⟨nd, rfl⟩⟩; refine ⟨_, rfl, ?_⟩))
      go_ret
      exact ⟨by first | rfl | (simp; done) | (simp [*]; done), by repeat (first | exact Drawn0.refl _ | apply Drawn0.step)⟩
  · replace c5 := Bool.eq_false_iff.mpr c5
    subst c5
    have H1 : (if t102 = true then (some 1) else (if a0 < a1 then (some (-1)) else (if a0 > a1 then (some 1) else (some 0)))) = some r := by rw [if_neg (show ¬ (false = true) by decide)] at H; exact H
    clear H
    have H := H1
    clear H1
    by_cases c7 : t102 = true
    · subst c7
      have H1 : (some 1) = some r := by rw [if_pos rfl] at H; exact H
      clear H
      have H := H1
      clear H1
      obtain rfl := Option.some.inj H
      go_enter Tryd.func65, Tryd.ntmps65
      go_wp2_with (first | ((with_reducible refine gate_callee (f := 81) rfl ?_); refine goesL_ (some 8) rfl rfl Tryd.func81 (by kernel_rfl) rfl #[.int .i64 a0] rfl (by (try simp only [List.map_toArray, List.map_cons, List.map_nil]); first | done | rfl | (simp only [List.length_drop, List.length_take]; rfl)) ?_; (with_reducible refine (cmp_isNaN_int.calls a0 false _ A3.out).mono ?_); rintro e w' ⟨rfl, ⟨nd, rfl⟩⟩; refine ⟨_, rfl, ?_⟩) | ((with_reducible refine gate_callee (f := 81) rfl ?_); refine goesL_ (some 10) rfl rfl Tryd.func81 (by kernel_rfl) rfl #[.int .i64 a1] rfl (by (try simp only [List.map_toArray, List.map_cons, List.map_nil]); first | done | rfl | (simp only [List.length_drop, List.length_take]; rfl)) ?_; (with_reducible refine (cmp_isNaN_int.calls a1 true _ A4.out).mono ?_); rintro e w' ⟨rfl, ⟨nd, rfl⟩⟩; refine ⟨_, rfl, ?_⟩))
      go_ret
      exact ⟨by first | rfl | (simp; done) | (simp [*]; done), by repeat (first | exact Drawn0.refl _ | apply Drawn0.step)⟩
    · replace c7 := Bool.eq_false_iff.mpr c7
      subst c7
      have H1 : (if a0 < a1 then (some (-1)) else (if a0 > a1 then (some 1) else (some 0))) = some r := by rw [if_neg (show ¬ (false = true) by decide)] at H; exact H
      clear H
      have H := H1
      clear H1
      by_cases c8 : a0 < a1
      · rw [if_pos c8] at H
        have c8b0 : decide (a0 < a1) = true := decide_eq_true c8
        clear c8
        obtain rfl := Option.some.inj H
        go_enter Tryd.func65, Tryd.ntmps65
        go_wp2_with (first | ((with_reducible refine gate_callee (f := 81) rfl ?_); refine goesL_ (some 8) rfl rfl Tryd.func81 (by kernel_rfl) rfl #[.int .i64 a0] rfl (by (try simp only [List.map_toArray, List.map_cons, List.map_nil]); first | done | rfl | (simp only [List.length_drop, List.length_take]; rfl)) ?_; (with_reducible refine (cmp_isNaN_int.calls a0 false _ A3.out).mono ?_); rintro e w' ⟨rfl, ⟨nd, rfl⟩⟩; refine ⟨_, rfl, ?_⟩) | ((with_reducible refine gate_callee (f := 81) rfl ?_); refine goesL_ (some 10) rfl rfl Tryd.func81 (by kernel_rfl) rfl #[.int .i64 a1] rfl (by (try simp only [List.map_toArray, List.map_cons, List.map_nil]); first | done | rfl | (simp only [List.length_drop, List.length_take]; rfl)) ?_; (with_reducible refine (cmp_isNaN_int.calls a1 false _ A4.out).mono ?_); rintro e w' ⟨rfl, ⟨nd, rfl⟩⟩; refine ⟨_, rfl, ?_⟩))
        go_ret
        exact ⟨by first | rfl | (simp; done) | (simp [*]; done), by repeat (first | exact Drawn0.refl _ | apply Drawn0.step)⟩
      · rw [if_neg c8] at H
        have c8b0 : decide (a0 < a1) = false := decide_eq_false c8
        clear c8
        by_cases c9 : a0 > a1
        · rw [if_pos c9] at H
          have c9b0 : decide (a1 < a0) = true := decide_eq_true c9
          clear c9
          obtain rfl := Option.some.inj H
          go_enter Tryd.func65, Tryd.ntmps65
          go_wp2_with (first | ((with_reducible refine gate_callee (f := 81) rfl ?_); refine goesL_ (some 8) rfl rfl Tryd.func81 (by kernel_rfl) rfl #[.int .i64 a0] rfl (by (try simp only [List.map_toArray, List.map_cons, List.map_nil]); first | done | rfl | (simp only [List.length_drop, List.length_take]; rfl)) ?_; (with_reducible refine (cmp_isNaN_int.calls a0 false _ A3.out).mono ?_); rintro e w' ⟨rfl, ⟨nd, rfl⟩⟩; refine ⟨_, rfl, ?_⟩) | ((with_reducible refine gate_callee (f := 81) rfl ?_); refine goesL_ (some 10) rfl rfl Tryd.func81 (by kernel_rfl) rfl #[.int .i64 a1] rfl (by (try simp only [List.map_toArray, List.map_cons, List.map_nil]); first | done | rfl | (simp only [List.length_drop, List.length_take]; rfl)) ?_; (with_reducible refine (cmp_isNaN_int.calls a1 false _ A4.out).mono ?_); rintro e w' ⟨rfl, ⟨nd, rfl⟩⟩; refine ⟨_, rfl, ?_⟩))
          go_ret
          exact ⟨by first | rfl | (simp; done) | (simp [*]; done), by repeat (first | exact Drawn0.refl _ | apply Drawn0.step)⟩
        · rw [if_neg c9] at H
          have c9b0 : decide (a1 < a0) = false := decide_eq_false c9
          clear c9
          obtain rfl := Option.some.inj H
          go_enter Tryd.func65, Tryd.ntmps65
          go_wp2_with (first | ((with_reducible refine gate_callee (f := 81) rfl ?_); refine goesL_ (some 8) rfl rfl Tryd.func81 (by kernel_rfl) rfl #[.int .i64 a0] rfl (by (try simp only [List.map_toArray, List.map_cons, List.map_nil]); first | done | rfl | (simp only [List.length_drop, List.length_take]; rfl)) ?_; (with_reducible refine (cmp_isNaN_int.calls a0 false _ A3.out).mono ?_); rintro e w' ⟨rfl, ⟨nd, rfl⟩⟩; refine ⟨_, rfl, ?_⟩) | ((with_reducible refine gate_callee (f := 81) rfl ?_); refine goesL_ (some 10) rfl rfl Tryd.func81 (by kernel_rfl) rfl #[.int .i64 a1] rfl (by (try simp only [List.map_toArray, List.map_cons, List.map_nil]); first | done | rfl | (simp only [List.length_drop, List.length_take]; rfl)) ?_; (with_reducible refine (cmp_isNaN_int.calls a1 false _ A4.out).mono ?_); rintro e w' ⟨rfl, ⟨nd, rfl⟩⟩; refine ⟨_, rfl, ?_⟩))
          go_ret
          exact ⟨by first | rfl | (simp; done) | (simp [*]; done), by repeat (first | exact Drawn0.refl _ | apply Drawn0.step)⟩

def cmp_isNaN_uint64.f (a0 : Int) : Option (Bool) := some (a0 != a0)
set_option maxHeartbeats 8000000 in
set_option maxRecDepth 100000 in
theorem cmp_isNaN_uint64.calls (a0 : Int) (r : Bool) (w : World) (h : cmp_isNaN_uint64.f a0 = some r) :
    Calls Tryd.prog 82 #[.int .u64 a0] w fun e w' => e = .returned (.bool r) ∧ Drawn0 w w' := by
  have H : (some (a0 != a0)) = some r := h
  clear h
  obtain rfl := Option.some.inj H
  go_enter Tryd.func82, Tryd.ntmps82
  go_wp2
  go_ret
  exact ⟨by first | rfl | (simp; done) | (simp [*]; done), by repeat (first | exact Drawn0.refl _ | apply Drawn0.step)⟩

def cmp_Compare_uint64.f (a0 : Int) (a1 : Int) : Option (Int) := (cmp_isNaN_uint64.f a0).bind fun t103 => ((cmp_isNaN_uint64.f a1).bind fun t104 => (if t103 = true then (if t104 = true then (some 0) else (some (-1))) else (if t104 = true then (some 1) else (if a0 < a1 then (some (-1)) else (if a0 > a1 then (some 1) else (some 0))))))
set_option maxHeartbeats 8000000 in
set_option maxRecDepth 100000 in
theorem cmp_Compare_uint64.calls (a0 : Int) (a1 : Int) (r : Int) (w : World) (h : cmp_Compare_uint64.f a0 a1 = some r) :
    Calls Tryd.prog 66 #[.int .u64 a0, .int .u64 a1] w fun e w' => e = .returned (.int .i64 r) ∧ Drawn0 w w' := by
  have H : ((cmp_isNaN_uint64.f a0).bind fun t103 => ((cmp_isNaN_uint64.f a1).bind fun t104 => (if t103 = true then (if t104 = true then (some 0) else (some (-1))) else (if t104 = true then (some 1) else (if a0 < a1 then (some (-1)) else (if a0 > a1 then (some 1) else (some 0))))))) = some r := h
  clear h
  replace H := Option.bind_eq_some_iff.mp H
  obtain ⟨t103, A30, H⟩ := H
  replace H : ((cmp_isNaN_uint64.f a1).bind fun t104 => (if t103 = true then (if t104 = true then (some 0) else (some (-1))) else (if t104 = true then (some 1) else (if a0 < a1 then (some (-1)) else (if a0 > a1 then (some 1) else (some 0)))))) = some r := H
  have A3 := Aside0.mk A30
  clear A30
  replace H := Option.bind_eq_some_iff.mp H
  obtain ⟨t104, A40, H⟩ := H
  replace H : (if t103 = true then (if t104 = true then (some 0) else (some (-1))) else (if t104 = true then (some 1) else (if a0 < a1 then (some (-1)) else (if a0 > a1 then (some 1) else (some 0))))) = some r := H
  have A4 := Aside0.mk A40
  clear A40
  by_cases c5 : t103 = true
  · subst c5
    have H1 : (if t104 = true then (some 0) else (some (-1))) = some r := by rw [if_pos rfl] at H; exact H
    clear H
    have H := H1
    clear H1
    by_cases c6 : t104 = true
    · subst c6
      have H1 : (some 0) = some r := by rw [if_pos rfl] at H; exact H
      clear H
      have H := H1
      clear H1
      obtain rfl := Option.some.inj H
      go_enter Tryd.func66, Tryd.ntmps66
      go_wp2_with (first | ((with_reducible refine gate_callee (f := 82) rfl ?_); refine goesL_ (some 8) rfl rfl Tryd.func82 (by kernel_rfl) rfl #[.int .u64 a0] rfl (by (try simp only [List.map_toArray, List.map_cons, List.map_nil]); first | done | rfl | (simp only [List.length_drop, List.length_take]; rfl)) ?_; (with_reducible refine (cmp_isNaN_uint64.calls a0 true _ A3.out).mono ?_); rintro e w' ⟨rfl, ⟨nd, rfl⟩⟩; refine ⟨_, rfl, ?_⟩) | ((with_reducible refine gate_callee (f := 82) rfl ?_); refine goesL_ (some 10) rfl rfl Tryd.func82 (by kernel_rfl) rfl #[.int .u64 a1] rfl (by (try simp only [List.map_toArray, List.map_cons, List.map_nil]); first | done | rfl | (simp only [List.length_drop, List.length_take]; rfl)) ?_; (with_reducible refine (cmp_isNaN_uint64.calls a1 true _ A4.out).mono ?_); rintro e w' ⟨rfl, ⟨nd, rfl⟩⟩; refine ⟨_, rfl, ?_⟩))
      go_ret
      exact ⟨by first | rfl | (simp; done) | (simp [*]; done), by repeat (first | exact Drawn0.refl _ | apply Drawn0.step)⟩
    · replace c6 := Bool.eq_false_iff.mpr c6
      subst c6
      have H1 : (some (-1)) = some r := by rw [if_neg (show ¬ (false = true) by decide)] at H; exact H
      clear H
      have H := H1
      clear H1
      obtain rfl := Option.some.inj H
      go_enter Tryd.func66, Tryd.ntmps66
      go_wp2_with (first | ((with_reducible refine gate_callee (f := 82) rfl ?_); refine goesL_ (some 8) rfl rfl Tryd.func82 (by kernel_rfl) rfl #[.int .u64 a0] rfl (by (try simp only [List.map_toArray, List.map_cons, List.map_nil]); first | done | rfl | (simp only [List.length_drop, List.length_take]; rfl)) ?_; (with_reducible refine (cmp_isNaN_uint64.calls a0 true _ A3.out).mono ?_); rintro e w' ⟨rfl, ⟨nd, rfl⟩⟩; refine ⟨_, rfl, ?_⟩) | ((with_reducible refine gate_callee (f := 82) rfl ?_); refine goesL_ (some 10) rfl rfl Tryd.func82 (by kernel_rfl) rfl #[.int .u64 a1] rfl (by (try simp only [List.map_toArray, List.map_cons, List.map_nil]); first | done | rfl | (simp only [List.length_drop, List.length_take]; rfl)) ?_; (with_reducible refine (cmp_isNaN_uint64.calls a1 false _ A4.out).mono ?_); rintro e w' ⟨rfl, ⟨nd, rfl⟩⟩; refine ⟨_, rfl, ?_⟩))
      go_ret
      exact ⟨by first | rfl | (simp; done) | (simp [*]; done), by repeat (first | exact Drawn0.refl _ | apply Drawn0.step)⟩
  · replace c5 := Bool.eq_false_iff.mpr c5
    subst c5
    have H1 : (if t104 = true then (some 1) else (if a0 < a1 then (some (-1)) else (if a0 > a1 then (some 1) else (some 0)))) = some r := by rw [if_neg (show ¬ (false = true) by decide)] at H; exact H
    clear H
    have H := H1
    clear H1
    by_cases c7 : t104 = true
    · subst c7
      have H1 : (some 1) = some r := by rw [if_pos rfl] at H; exact H
      clear H
      have H := H1
      clear H1
      obtain rfl := Option.some.inj H
      go_enter Tryd.func66, Tryd.ntmps66
      go_wp2_with (first | ((with_reducible refine gate_callee (f := 82) rfl ?_); refine goesL_ (some 8) rfl rfl Tryd.func82 (by kernel_rfl) rfl #[.int .u64 a0] rfl (by (try simp only [List.map_toArray, List.map_cons, List.map_nil]); first | done | rfl | (simp only [List.length_drop, List.length_take]; rfl)) ?_; (with_reducible refine (cmp_isNaN_uint64.calls a0 false _ A3.out).mono ?_); rintro e w' ⟨rfl, ⟨nd, rfl⟩⟩; refine ⟨_, rfl, ?_⟩) | ((with_reducible refine gate_callee (f := 82) rfl ?_); refine goesL_ (some 10) rfl rfl Tryd.func82 (by kernel_rfl) rfl #[.int .u64 a1] rfl (by (try simp only [List.map_toArray, List.map_cons, List.map_nil]); first | done | rfl | (simp only [List.length_drop, List.length_take]; rfl)) ?_; (with_reducible refine (cmp_isNaN_uint64.calls a1 true _ A4.out).mono ?_); rintro e w' ⟨rfl, ⟨nd, rfl⟩⟩; refine ⟨_, rfl, ?_⟩))
      go_ret
      exact ⟨by first | rfl | (simp; done) | (simp [*]; done), by repeat (first | exact Drawn0.refl _ | apply Drawn0.step)⟩
    · replace c7 := Bool.eq_false_iff.mpr c7
      subst c7
      have H1 : (if a0 < a1 then (some (-1)) else (if a0 > a1 then (some 1) else (some 0))) = some r := by rw [if_neg (show ¬ (false = true) by decide)] at H; exact H
      clear H
      have H := H1
      clear H1
      by_cases c8 : a0 < a1
      · rw [if_pos c8] at H
        have c8b0 : decide (a0 < a1) = true := decide_eq_true c8
        clear c8
        obtain rfl := Option.some.inj H
        go_enter Tryd.func66, Tryd.ntmps66
        go_wp2_with (first | ((with_reducible refine gate_callee (f := 82) rfl ?_); refine goesL_ (some 8) rfl rfl Tryd.func82 (by kernel_rfl) rfl #[.int .u64 a0] rfl (by (try simp only [List.map_toArray, List.map_cons, List.map_nil]); first | done | rfl | (simp only [List.length_drop, List.length_take]; rfl)) ?_; (with_reducible refine (cmp_isNaN_uint64.calls a0 false _ A3.out).mono ?_); rintro e w' ⟨rfl, ⟨nd, rfl⟩⟩; refine ⟨_, rfl, ?_⟩) | ((with_reducible refine gate_callee (f := 82) rfl ?_); refine goesL_ (some 10) rfl rfl Tryd.func82 (by kernel_rfl) rfl #[.int .u64 a1] rfl (by (try simp only [List.map_toArray, List.map_cons, List.map_nil]); first | done | rfl | (simp only [List.length_drop, List.length_take]; rfl)) ?_; (with_reducible refine (cmp_isNaN_uint64.calls a1 false _ A4.out).mono ?_); rintro e w' ⟨rfl, ⟨nd, rfl⟩⟩; refine ⟨_, rfl, ?_⟩))
        go_ret
        exact ⟨by first | rfl | (simp; done) | (simp [*]; done), by repeat (first | exact Drawn0.refl _ | apply Drawn0.step)⟩
      · rw [if_neg c8] at H
        have c8b0 : decide (a0 < a1) = false := decide_eq_false c8
        clear c8
        by_cases c9 : a0 > a1
        · rw [if_pos c9] at H
          have c9b0 : decide (a1 < a0) = true := decide_eq_true c9
          clear c9
          obtain rfl := Option.some.inj H
          go_enter Tryd.func66, Tryd.ntmps66
          go_wp2_with (first | ((with_reducible refine gate_callee (f := 82) rfl ?_); refine goesL_ (some 8) rfl rfl Tryd.func82 (by kernel_rfl) rfl #[.int .u64 a0] rfl (by (try simp only [List.map_toArray, List.map_cons, List.map_nil]); first | done | rfl | (simp only [List.length_drop, List.length_take]; rfl)) ?_; (with_reducible refine (cmp_isNaN_uint64.calls a0 false _ A3.out).mono ?_); rintro e w' ⟨rfl, ⟨nd, rfl⟩⟩; refine ⟨_, rfl, ?_⟩) | ((with_reducible refine gate_callee (f := 82) rfl ?_); refine goesL_ (some 10) rfl rfl Tryd.func82 (by kernel_rfl) rfl #[.int .u64 a1] rfl (by (try simp only [List.map_toArray, List.map_cons, List.map_nil]); first | done | rfl | (simp only [List.length_drop, List.length_take]; rfl)) ?_; (with_reducible refine (cmp_isNaN_uint64.calls a1 false _ A4.out).mono ?_); rintro e w' ⟨rfl, ⟨nd, rfl⟩⟩; refine ⟨_, rfl, ?_⟩))
          go_ret
          exact ⟨by first | rfl | (simp; done) | (simp [*]; done), by repeat (first | exact Drawn0.refl _ | apply Drawn0.step)⟩
        · rw [if_neg c9] at H
          have c9b0 : decide (a1 < a0) = false := decide_eq_false c9
          clear c9
          obtain rfl := Option.some.inj H
          go_enter Tryd.func66, Tryd.ntmps66
          go_wp2_with (first | ((with_reducible refine gate_callee (f := 82) rfl ?_); refine goesL_ (some 8) rfl rfl Tryd.func82 (by kernel_rfl) rfl #[.int .u64 a0] rfl (by (try simp only [List.map_toArray, List.map_cons, List.map_nil]); first | done | rfl | (simp only [List.length_drop, List.length_take]; rfl)) ?_; (with_reducible refine (cmp_isNaN_uint64.calls a0 false _ A3.out).mono ?_); rintro e w' ⟨rfl, ⟨nd, rfl⟩⟩; refine ⟨_, rfl, ?_⟩) | ((with_reducible refine gate_callee (f := 82) rfl ?_); refine goesL_ (some 10) rfl rfl Tryd.func82 (by kernel_rfl) rfl #[.int .u64 a1] rfl (by (try simp only [List.map_toArray, List.map_cons, List.map_nil]); first | done | rfl | (simp only [List.length_drop, List.length_take]; rfl)) ?_; (with_reducible refine (cmp_isNaN_uint64.calls a1 false _ A4.out).mono ?_); rintro e w' ⟨rfl, ⟨nd, rfl⟩⟩; refine ⟨_, rfl, ?_⟩))
          go_ret
          exact ⟨by first | rfl | (simp; done) | (simp [*]; done), by repeat (first | exact Drawn0.refl _ | apply Drawn0.step)⟩

def mini_fits.f (a0 : Int) (a1 : Int) : Option (Bool) := if a0 ≥ 0 then (if a0 ≤ 60 then (if a1 ≥ (-2000) then (some (decide (a1 ≤ 2000))) else (some false)) else (some false)) else (some false)
set_option maxHeartbeats 8000000 in
set_option maxRecDepth 100000 in
theorem mini_fits.calls (a0 : Int) (a1 : Int) (r : Bool) (w : World) (h : mini_fits.f a0 a1 = some r) :
    Calls Tryd.prog 105 #[.int .i64 a0, .int .i64 a1] w fun e w' => e = .returned (.bool r) ∧ Drawn0 w w' := by
  have H : (if a0 ≥ 0 then (if a0 ≤ 60 then (if a1 ≥ (-2000) then (some (decide (a1 ≤ 2000))) else (some false)) else (some false)) else (some false)) = some r := h
  clear h
  by_cases c3 : a0 ≥ 0
  · rw [if_pos c3] at H
    have c3b0 : decide (0 ≤ a0) = true := decide_eq_true c3
    clear c3
    by_cases c4 : a0 ≤ 60
    · rw [if_pos c4] at H
      have c4b0 : decide (a0 ≤ 60) = true := decide_eq_true c4
      clear c4
      by_cases c5 : a1 ≥ (-2000)
      · rw [if_pos c5] at H
        have c5b0 : decide ((-2000) ≤ a1) = true := decide_eq_true c5
        clear c5
        obtain rfl := Option.some.inj H
        go_enter Tryd.func105, Tryd.ntmps105
        go_wp2
        go_ret
        exact ⟨by first | rfl | (simp; done) | (simp [*]; done), by repeat (first | exact Drawn0.refl _ | apply Drawn0.step)⟩
      · rw [if_neg c5] at H
        have c5b0 : decide ((-2000) ≤ a1) = false := decide_eq_false c5
        clear c5
        obtain rfl := Option.some.inj H
        go_enter Tryd.func105, Tryd.ntmps105
        go_wp2
        go_ret
        exact ⟨by first | rfl | (simp; done) | (simp [*]; done), by repeat (first | exact Drawn0.refl _ | apply Drawn0.step)⟩
    · rw [if_neg c4] at H
      have c4b0 : decide (a0 ≤ 60) = false := decide_eq_false c4
      clear c4
      obtain rfl := Option.some.inj H
      go_enter Tryd.func105, Tryd.ntmps105
      go_wp2
      go_ret
      exact ⟨by first | rfl | (simp; done) | (simp [*]; done), by repeat (first | exact Drawn0.refl _ | apply Drawn0.step)⟩
  · rw [if_neg c3] at H
    have c3b0 : decide (0 ≤ a0) = false := decide_eq_false c3
    clear c3
    obtain rfl := Option.some.inj H
    go_enter Tryd.func105, Tryd.ntmps105
    go_wp2
    go_ret
    exact ⟨by first | rfl | (simp; done) | (simp [*]; done), by repeat (first | exact Drawn0.refl _ | apply Drawn0.step)⟩

def mini_Split.f (a0 : Int) (a1 : Int) : Option (Int × Int × Int) := (mini_fits.f a0 0).bind fun t105 => (if t105 = true then (if 0 ≤ a0 then (if (shr .u64 a1 a0) > 4095 then (some (0, 0, 1)) else (some (shr .u64 a1 a0, Go.bits .and .u64 a1 (IntKind.u64.wrap ((shl .u64 1 a0) - 1)), 0))) else (none)) else (some (0, 0, 1)))
set_option maxHeartbeats 8000000 in
set_option maxRecDepth 100000 in
theorem mini_Split.calls (a0 : Int) (a1 : Int) (r1 : Int) (r2 : Int) (r3 : Int) (w : World) (h : mini_Split.f a0 a1 = some (r1, r2, r3)) :
    Calls Tryd.prog 104 #[.int .i64 a0, .int .u64 a1] w fun e w' => e = .returned (.tuple #[.int .u64 r1, .int .u64 r2, .int .i64 r3]) ∧ Drawn0 w w' := by
  have H : ((mini_fits.f a0 0).bind fun t105 => (if t105 = true then (if 0 ≤ a0 then (if (shr .u64 a1 a0) > 4095 then (some (0, 0, 1)) else (some (shr .u64 a1 a0, Go.bits .and .u64 a1 (IntKind.u64.wrap ((shl .u64 1 a0) - 1)), 0))) else (none)) else (some (0, 0, 1)))) = some (r1, r2, r3) := h
  clear h
  replace H := Option.bind_eq_some_iff.mp H
  obtain ⟨t105, A30, H⟩ := H
  replace H : (if t105 = true then (if 0 ≤ a0 then (if (shr .u64 a1 a0) > 4095 then (some (0, 0, 1)) else (some (shr .u64 a1 a0, Go.bits .and .u64 a1 (IntKind.u64.wrap ((shl .u64 1 a0) - 1)), 0))) else (none)) else (some (0, 0, 1))) = some (r1, r2, r3) := H
  have A3 := Aside0.mk A30
  clear A30
  by_cases c4 : t105 = true
  · subst c4
    have H1 : (if 0 ≤ a0 then (if (shr .u64 a1 a0) > 4095 then (some (0, 0, 1)) else (some (shr .u64 a1 a0, Go.bits .and .u64 a1 (IntKind.u64.wrap ((shl .u64 1 a0) - 1)), 0))) else (none)) = some (r1, r2, r3) := by rw [if_pos rfl] at H; exact H
    clear H
    have H := H1
    clear H1
    by_cases c5 : 0 ≤ a0
    · rw [if_pos c5] at H
      have c5b0 := eq_true c5
      have c5b1 : decide (0 ≤ a0) = true := decide_eq_true c5
      clear c5
      obtain ⟨ji6, hji6⟩ : ∃ j_ : Int, (shr .u64 a1 a0) = j_ := ⟨_, rfl⟩
      replace H : (if (ji6) > 4095 then (some (0, 0, 1)) else (some (ji6, Go.bits .and .u64 a1 (IntKind.u64.wrap ((shl .u64 1 a0) - 1)), 0))) = some (r1, r2, r3) := by first | (rw [hji6] at H; exact H) | (simp only [hji6] at H ⊢; exact H)
      (try rw [hji6] at A3)
      have hji6_ : (a1 / 2 ^ min a0.toNat 64) = ji6 := hji6
      have hji6z : a0 ≤ 64 → (a1 / 2 ^ a0.toNat) = ji6 := shr_small hji6
      by_cases c7 : (ji6) > 4095
      · rw [if_pos c7] at H
        have c7b0 : decide (4095 < (ji6)) = true := decide_eq_true c7
        clear c7
        simp only [Option.some.injEq, Prod.mk.injEq] at H
        obtain ⟨rfl, rfl, rfl⟩ := H
        go_enter Tryd.func104, Tryd.ntmps104
        go_wp2_with (first | (go_at_call 105; (with_reducible refine (mini_fits.calls a0 0 true _ A3.out).mono ?_); rintro e w' ⟨rfl, ⟨nd, rfl⟩⟩; (try first | exact ⟨rfl, _, World.drewN_drewN _ _ _⟩ | exact ⟨rfl, _, Eq.trans (World.drewN_drewN _ _ _) (congrArg (World.drewN _) (Nat.add_assoc _ _ _))⟩)))
        repeat (go_quiet (first | (go_at_call 105; (with_reducible refine (mini_fits.calls a0 0 true _ A3.out).mono ?_); rintro e w' ⟨rfl, ⟨nd, rfl⟩⟩; (try first | exact ⟨rfl, _, World.drewN_drewN _ _ _⟩ | exact ⟨rfl, _, Eq.trans (World.drewN_drewN _ _ _) (congrArg (World.drewN _) (Nat.add_assoc _ _ _))⟩))); try go_wp2_with (first | (go_at_call 105; (with_reducible refine (mini_fits.calls a0 0 true _ A3.out).mono ?_); rintro e w' ⟨rfl, ⟨nd, rfl⟩⟩; (try first | exact ⟨rfl, _, World.drewN_drewN _ _ _⟩ | exact ⟨rfl, _, Eq.trans (World.drewN_drewN _ _ _) (congrArg (World.drewN _) (Nat.add_assoc _ _ _))⟩))))
        go_ret3
        exact ⟨by first | rfl | (simp; done) | (simp only [← hji6] <;> (first | rfl | simp)) | (simp [*]; done), by repeat (first | exact Drawn0.refl _ | apply Drawn0.step)⟩
      · rw [if_neg c7] at H
        have c7b0 : decide (4095 < (ji6)) = false := decide_eq_false c7
        clear c7
        have c8b0 := eq_true (of_decide_eq_true (by first | (with_reducible assumption) | assumption) : 0 ≤ a0)
        have c9b0 := eq_true (of_decide_eq_true (by first | (with_reducible assumption) | assumption) : 0 ≤ a0)
        obtain ⟨ji10, hji10⟩ : ∃ j_ : Int, (shl .u64 1 a0) = j_ := ⟨_, rfl⟩
        replace H : (some (ji6, Go.bits .and .u64 a1 (IntKind.u64.wrap ((ji10) - 1)), 0)) = some (r1, r2, r3) := by first | (rw [hji10] at H; exact H) | (simp only [hji10] at H ⊢; exact H)
        (try rw [hji10] at A3)
        have hji10_ : (IntKind.u64.wrap (1 * 2 ^ min a0.toNat 64)) = ji10 := hji10
        have hji10z : a0 ≤ 64 → (IntKind.u64.wrap (1 * 2 ^ a0.toNat)) = ji10 := shl_small hji10
        have hji10u : (IntKind.u64.wrap (2 ^ min a0.toNat 64)) = ji10 := by have h_ := hji10_; rw [Int.one_mul] at h_; exact h_
        have hji10v : a0 ≤ 64 → (IntKind.u64.wrap (2 ^ a0.toNat)) = ji10 := fun hle_ => by have h_ := hji10z hle_; rw [Int.one_mul] at h_; exact h_
        simp only [Option.some.injEq, Prod.mk.injEq] at H
        obtain ⟨rfl, rfl, rfl⟩ := H
        go_enter Tryd.func104, Tryd.ntmps104
        go_wp2_with (first | (go_at_call 105; (with_reducible refine (mini_fits.calls a0 0 true _ A3.out).mono ?_); rintro e w' ⟨rfl, ⟨nd, rfl⟩⟩; (try first | exact ⟨rfl, _, World.drewN_drewN _ _ _⟩ | exact ⟨rfl, _, Eq.trans (World.drewN_drewN _ _ _) (congrArg (World.drewN _) (Nat.add_assoc _ _ _))⟩)))
        repeat (go_quiet (first | (go_at_call 105; (with_reducible refine (mini_fits.calls a0 0 true _ A3.out).mono ?_); rintro e w' ⟨rfl, ⟨nd, rfl⟩⟩; (try first | exact ⟨rfl, _, World.drewN_drewN _ _ _⟩ | exact ⟨rfl, _, Eq.trans (World.drewN_drewN _ _ _) (congrArg (World.drewN _) (Nat.add_assoc _ _ _))⟩))); try go_wp2_with (first | (go_at_call 105; (with_reducible refine (mini_fits.calls a0 0 true _ A3.out).mono ?_); rintro e w' ⟨rfl, ⟨nd, rfl⟩⟩; (try first | exact ⟨rfl, _, World.drewN_drewN _ _ _⟩ | exact ⟨rfl, _, Eq.trans (World.drewN_drewN _ _ _) (congrArg (World.drewN _) (Nat.add_assoc _ _ _))⟩))))
        go_ret3
        exact ⟨by first | rfl | (simp; done) | (simp only [← hji6, ← hji10] <;> (first | rfl | simp)) | (simp [*]; done), by repeat (first | exact Drawn0.refl _ | apply Drawn0.step)⟩
    · rw [if_neg c5] at H
      exact absurd H (by simp)
  · replace c4 := Bool.eq_false_iff.mpr c4
    subst c4
    have H1 : (some (0, 0, 1)) = some (r1, r2, r3) := by rw [if_neg (show ¬ (false = true) by decide)] at H; exact H
    clear H
    have H := H1
    clear H1
    simp only [Option.some.injEq, Prod.mk.injEq] at H
    obtain ⟨rfl, rfl, rfl⟩ := H
    go_enter Tryd.func104, Tryd.ntmps104
    go_wp2_with (first | (go_at_call 105; (with_reducible refine (mini_fits.calls a0 0 false _ A3.out).mono ?_); rintro e w' ⟨rfl, ⟨nd, rfl⟩⟩; (try first | exact ⟨rfl, _, World.drewN_drewN _ _ _⟩ | exact ⟨rfl, _, Eq.trans (World.drewN_drewN _ _ _) (congrArg (World.drewN _) (Nat.add_assoc _ _ _))⟩)))
    repeat (go_quiet (first | (go_at_call 105; (with_reducible refine (mini_fits.calls a0 0 false _ A3.out).mono ?_); rintro e w' ⟨rfl, ⟨nd, rfl⟩⟩; (try first | exact ⟨rfl, _, World.drewN_drewN _ _ _⟩ | exact ⟨rfl, _, Eq.trans (World.drewN_drewN _ _ _) (congrArg (World.drewN _) (Nat.add_assoc _ _ _))⟩))); try go_wp2_with (first | (go_at_call 105; (with_reducible refine (mini_fits.calls a0 0 false _ A3.out).mono ?_); rintro e w' ⟨rfl, ⟨nd, rfl⟩⟩; (try first | exact ⟨rfl, _, World.drewN_drewN _ _ _⟩ | exact ⟨rfl, _, Eq.trans (World.drewN_drewN _ _ _) (congrArg (World.drewN _) (Nat.add_assoc _ _ _))⟩))))
    go_ret3
    exact ⟨by first | rfl | (simp; done) | (simp [*]; done), by repeat (first | exact Drawn0.refl _ | apply Drawn0.step)⟩

def mini_Value.j0 : Nat → Int → Int → Int → Int → Int → Bool → Option (Int × Int × Int)
  | 0, _, _, _, _, _, _ => none
  | k + 1, x0, x1, x2, x9, x10, x20 => if x20 = true then (some (0, 0, 1)) else (if x2 = 0 then (some (0, 0, 0)) else (if x9 > 0 then (if 0 ≤ x0 then ((bits_TrailingZeros64.f (Go.bits .or .u64 x10 (shl .u64 1 x0))).bind fun t110 => (if 0 ≤ t110 then (some (shr .u64 (Go.bits .or .u64 x10 (shl .u64 1 x0)) t110, wrap64 ((wrap64 ((wrap64 ((mx (wrap64 (x9)) 1) - x1)) - x0)) + t110), 0)) else (none))) else (none)) else ((bits_TrailingZeros64.f x10).bind fun t111 => (if 0 ≤ t111 then (some (shr .u64 x10 t111, wrap64 ((wrap64 ((wrap64 ((mx (wrap64 (x9)) 1) - x1)) - x0)) + t111), 0)) else (none)))))
def mini_Value.f (k : Nat) (a0 : Int) (a1 : Int) (a2 : Int) : Option (Int × Int × Int) := (mini_Split.f a0 a2).bind fun bt106 => (if bt106.2.2 = 0 then ((mini_fits.f a0 a1).bind fun t109 => (mini_Value.j0 k a0 a1 a2 bt106.1 bt106.2.1 (!t109))) else (mini_Value.j0 k a0 a1 a2 bt106.1 bt106.2.1 true))
set_option maxHeartbeats 8000000 in
set_option maxRecDepth 100000 in
theorem mini_Value.calls (k : Nat) (a0 : Int) (a1 : Int) (a2 : Int) (r1 : Int) (r2 : Int) (r3 : Int) (w : World) (hG : Glob w) (h : mini_Value.f k a0 a1 a2 = some (r1, r2, r3)) :
    Calls Tryd.prog 90 #[.int .i64 a0, .int .i64 a1, .int .u64 a2] w fun e w' => e = .returned (.tuple #[.int .u64 r1, .int .i64 r2, .int .i64 r3]) ∧ Below w.heap.size w w' := by
  have HG := Aside0.mk hG
  clear hG
  have HB := Aside0.mk (Below.refl w.heap.size w)
  have H : ((mini_Split.f a0 a2).bind fun bt106 => (if bt106.2.2 = 0 then ((mini_fits.f a0 a1).bind fun t109 => (mini_Value.j0 k a0 a1 a2 bt106.1 bt106.2.1 (!t109))) else (mini_Value.j0 k a0 a1 a2 bt106.1 bt106.2.1 true))) = some (r1, r2, r3) := h
  clear h
  replace H := Option.bind_eq_some_iff.mp H
  obtain ⟨⟨t106, t107, t108⟩, A40, H⟩ := H
  replace H : (if t108 = 0 then ((mini_fits.f a0 a1).bind fun t109 => (mini_Value.j0 k a0 a1 a2 t106 t107 (!t109))) else (mini_Value.j0 k a0 a1 a2 t106 t107 true)) = some (r1, r2, r3) := H
  have A4 := Aside0.mk A40
  clear A40
  have HC5 := Aside0.mk H
  clear H
  go_enter Tryd.func90, Tryd.ntmps90
  go_upto_region 2 with (first | ((with_reducible refine gate_callee (f := 104) rfl ?_); refine goesL_ (some 16) rfl rfl Tryd.func104 (by kernel_rfl) rfl #[.int .i64 a0, .int .u64 a2] rfl (by (try simp only [List.map_toArray, List.map_cons, List.map_nil]); first | done | rfl | (simp only [List.length_drop, List.length_take]; rfl)) ?_; (with_reducible refine (mini_Split.calls a0 a2 t106 t107 t108 _ A4.out).mono ?_); rintro e w' ⟨rfl, ⟨nd, rfl⟩⟩; refine ⟨_, rfl, ?_⟩))
  (try simp only [Act.put, List.setIfInBounds_toArray, List.set_cons_zero, List.set_cons_succ])
  go_cut [20] (fun v20 wc => ∃ (kq : Nat) (x20_4 : Bool), v20 = .bool x20_4 ∧ Aside0 (mini_Value.j0 kq a0 a1 a2 t106 t107 x20_4 = some (r1, r2, r3)) ∧ Aside0 (kq ≤ k) ∧ Aside0 (Below w.heap.size w wc))
  case first =>
    have H := HC5.out
    clear HC5
    by_cases c6 : t108 = 0
    · rw [if_pos c6] at H
      have c6b0 : (t108 == 0) = true := beq_iff_eq.mpr c6
      have c6b1 : (t108 != 0) = false := bne_eq_false_iff_eq.mpr c6
      clear c6
      (first | rw [c6b0] | (simp only [i64_w, i32_w]; rw [c6b0]) | skip)
      replace H := Option.bind_eq_some_iff.mp H
      obtain ⟨t109, A70, H⟩ := H
      replace H : (mini_Value.j0 k a0 a1 a2 t106 t107 (!t109)) = some (r1, r2, r3) := H
      have A7 := Aside0.mk A70
      clear A70
      have H' := Aside0.mk H
      clear H
      go_wp2_with (first | (go_at_call 105; (with_reducible refine (mini_fits.calls a0 a1 t109 _ A7.out).mono ?_); rintro e w' ⟨rfl, ⟨nd, rfl⟩⟩))
      go_meet
      case rel => exact ⟨_, (!t109), (by first | rfl | (simp; done) | (simp [*]; done)), H', ⟨by first | omega | exact Nat.le_refl _⟩, ⟨by repeat (first | (with_reducible first | exact HB.out | apply below_alloc | apply pw_below_drewN | apply below_drew1) | exact HB.out)⟩⟩
    · rw [if_neg c6] at H
      have c6b0 : (t108 == 0) = false := beq_eq_false_iff_ne.mpr c6
      have c6b1 : (t108 != 0) = true := bne_iff_ne.mpr c6
      (first | rw [c6b0] | (simp only [i64_w, i32_w]; rw [c6b0]) | skip)
      have H' := Aside0.mk H
      clear H
      go_wp2
      go_meet
      case rel => exact ⟨_, (true), (by first | rfl | (simp; done) | (simp [*]; done)), H', ⟨by first | omega | exact Nat.le_refl _⟩, ⟨by repeat (first | (with_reducible first | exact HB.out | apply below_alloc | apply pw_below_drewN | apply below_drew1) | exact HB.out)⟩⟩
  case rest =>
    clear HC5
    try clear c1
    try clear p2
    try clear c6
    try clear c6b0
    try clear c6b1
    obtain ⟨kq, x20_4, rfl, HA, HJ4, HB⟩ := hcut
    cases kq with
    | zero => exact absurd HA.out (by simp [mini_Value.j0])
    | succ kj4 =>
      have H := HA.out
      clear HA
      simp only [mini_Value.j0] at H
      by_cases c8 : x20_4 = true
      · subst c8
        have H1 : (some (0, 0, 1)) = some (r1, r2, r3) := by rw [if_pos rfl] at H; exact H
        clear H
        have H := H1
        clear H1
        simp only [Option.some.injEq, Prod.mk.injEq] at H
        obtain ⟨rfl, rfl, rfl⟩ := H
        go_wp2
        go_ret3
        exact ⟨by first | rfl | (simp [errW_none, errW_some] <;> rfl) | (simp [*, errW_none, errW_some] <;> rfl), by repeat (first | (with_reducible first | exact HB.out | apply below_alloc | apply pw_below_drewN | apply below_drew1) | exact HB.out)⟩
      · replace c8 := Bool.eq_false_iff.mpr c8
        subst c8
        have H1 : (if a2 = 0 then (some (0, 0, 0)) else (if t106 > 0 then (if 0 ≤ a0 then ((bits_TrailingZeros64.f (Go.bits .or .u64 t107 (shl .u64 1 a0))).bind fun t110 => (if 0 ≤ t110 then (some (shr .u64 (Go.bits .or .u64 t107 (shl .u64 1 a0)) t110, wrap64 ((wrap64 ((wrap64 ((mx (wrap64 (t106)) 1) - a1)) - a0)) + t110), 0)) else (none))) else (none)) else ((bits_TrailingZeros64.f t107).bind fun t111 => (if 0 ≤ t111 then (some (shr .u64 t107 t111, wrap64 ((wrap64 ((wrap64 ((mx (wrap64 (t106)) 1) - a1)) - a0)) + t111), 0)) else (none))))) = some (r1, r2, r3) := by rw [if_neg (show ¬ (false = true) by decide)] at H; exact H
        clear H
        have H := H1
        clear H1
        by_cases c9 : a2 = 0
        · rw [if_pos c9] at H
          have c9b0 : (a2 == 0) = true := beq_iff_eq.mpr c9
          have c9b1 : (a2 != 0) = false := bne_eq_false_iff_eq.mpr c9
          clear c9
          simp only [Option.some.injEq, Prod.mk.injEq] at H
          obtain ⟨rfl, rfl, rfl⟩ := H
          go_wp2
          go_ret3
          exact ⟨by first | rfl | (simp [errW_none, errW_some] <;> rfl) | (simp [*, errW_none, errW_some] <;> rfl), by repeat (first | (with_reducible first | exact HB.out | apply below_alloc | apply pw_below_drewN | apply below_drew1) | exact HB.out)⟩
        · rw [if_neg c9] at H
          have c9b0 : (a2 == 0) = false := beq_eq_false_iff_ne.mpr c9
          have c9b1 : (a2 != 0) = true := bne_iff_ne.mpr c9
          by_cases c10 : t106 > 0
          · rw [if_pos c10] at H
            have c10b0 : decide (0 < t106) = true := decide_eq_true c10
            clear c10
            by_cases c11 : 0 ≤ a0
            · rw [if_pos c11] at H
              have c11b0 := eq_true c11
              have c11b1 : decide (0 ≤ a0) = true := decide_eq_true c11
              clear c11
              obtain ⟨ji12, hji12⟩ : ∃ j_ : Int, (shl .u64 1 a0) = j_ := ⟨_, rfl⟩
              replace H : ((bits_TrailingZeros64.f (Go.bits .or .u64 t107 (ji12))).bind fun t110 => (if 0 ≤ t110 then (some (shr .u64 (Go.bits .or .u64 t107 (ji12)) t110, wrap64 ((wrap64 ((wrap64 ((mx (wrap64 (t106)) 1) - a1)) - a0)) + t110), 0)) else (none))) = some (r1, r2, r3) := by first | (rw [hji12] at H; exact H) | (simp only [hji12] at H ⊢; exact H)
              have hji12_ : (IntKind.u64.wrap (1 * 2 ^ min a0.toNat 64)) = ji12 := hji12
              have hji12z : a0 ≤ 64 → (IntKind.u64.wrap (1 * 2 ^ a0.toNat)) = ji12 := shl_small hji12
              have hji12u : (IntKind.u64.wrap (2 ^ min a0.toNat 64)) = ji12 := by have h_ := hji12_; rw [Int.one_mul] at h_; exact h_
              have hji12v : a0 ≤ 64 → (IntKind.u64.wrap (2 ^ a0.toNat)) = ji12 := fun hle_ => by have h_ := hji12z hle_; rw [Int.one_mul] at h_; exact h_
              replace H := Option.bind_eq_some_iff.mp H
              obtain ⟨t110, A130, H⟩ := H
              replace H : (if 0 ≤ t110 then (some (shr .u64 (Go.bits .or .u64 t107 (ji12)) t110, wrap64 ((wrap64 ((wrap64 ((mx (wrap64 (t106)) 1) - a1)) - a0)) + t110), 0)) else (none)) = some (r1, r2, r3) := H
              have A13 := Aside0.mk A130
              clear A130
              by_cases c14 : 0 ≤ t110
              · rw [if_pos c14] at H
                have c14b0 := eq_true c14
                have c14b1 : decide (0 ≤ t110) = true := decide_eq_true c14
                clear c14
                obtain ⟨ji15, hji15⟩ : ∃ j_ : Int, (shr .u64 (Go.bits .or .u64 t107 (ji12)) t110) = j_ := ⟨_, rfl⟩
                replace H : (some (ji15, wrap64 ((wrap64 ((wrap64 ((mx (wrap64 (t106)) 1) - a1)) - a0)) + t110), 0)) = some (r1, r2, r3) := by first | (rw [hji15] at H; exact H) | (simp only [hji15] at H ⊢; exact H)
                (try rw [hji15] at A13)
                have hji15_ : ((Go.bits .or .u64 t107 (ji12)) / 2 ^ min t110.toNat 64) = ji15 := hji15
                have hji15z : t110 ≤ 64 → ((Go.bits .or .u64 t107 (ji12)) / 2 ^ t110.toNat) = ji15 := shr_small hji15
                obtain ⟨ji16, hji16⟩ : ∃ j_ : Int, (mx (wrap64 (t106)) 1) = j_ := ⟨_, rfl⟩
                replace H : (some (ji15, wrap64 ((wrap64 ((wrap64 ((ji16) - a1)) - a0)) + t110), 0)) = some (r1, r2, r3) := by first | (rw [hji16] at H; exact H) | (simp only [hji16] at H ⊢; exact H)
                (try rw [hji16] at A13)
                (try (have hji16l : 1 ≤ ji16 := by (rw [← hji16]; unfold mx; (repeat' split) <;> omega)))
                (try (have hji16m : 0 ≤ ji16 := by omega))
                (try (have hji16t : ∀ k_ : Int, Int.tmod ji16 k_ = ji16 % k_ := fun k_ => Int.tmod_eq_emod_of_nonneg (by assumption)))
                have hji16_ : (if (wrap64 (t106)) < 1 then 1 else (wrap64 (t106))) = ji16 := hji16
                simp only [Option.some.injEq, Prod.mk.injEq] at H
                obtain ⟨rfl, rfl, rfl⟩ := H
                go_wp2_with (first | ((with_reducible refine gate_callee (f := 106) rfl ?_); refine goesL_ (some 40) rfl rfl Tryd.func106 (by kernel_rfl) rfl #[.int .u64 (Go.bits .or .u64 t107 (ji12))] rfl (by (try simp only [List.map_toArray, List.map_cons, List.map_nil]); first | done | (simp only [hji12]; rfl) | rfl | (simp only [List.length_drop, List.length_take]; rfl)) ?_; (with_reducible refine (bits_TrailingZeros64.calls (Go.bits .or .u64 t107 (ji12)) t110 _ ?side1 A13.out).mono ?_); (case side1 => exact Glob.below HG.out (by repeat (first | (with_reducible first | exact HB.out | apply below_alloc | apply pw_below_drewN | apply below_drew1) | exact HB.out))); rintro e w17 ⟨rfl, hb⟩; refine ⟨_, rfl, ?_⟩; have n0_ := Aside0.mk (below_step (by repeat (first | (with_reducible first | exact HB.out | apply below_alloc | apply pw_below_drewN | apply below_drew1) | exact HB.out)) hb); clear HB; have HB := n0_; clear n0_; (try clear hb); (try clear hb2); (try clear hk); (try clear hi)))
                go_ret3
                exact ⟨by first | rfl | (simp [errW_none, errW_some] <;> rfl) | (simp only [← hji12, ← hji15, ← hji16]; first | rfl | (simp [errW_none, errW_some] <;> rfl)) | (simp [*, errW_none, errW_some] <;> rfl), by repeat (first | (with_reducible first | exact HB.out | apply below_alloc | apply pw_below_drewN | apply below_drew1) | exact HB.out)⟩
              · rw [if_neg c14] at H
                exact absurd H (by simp)
            · rw [if_neg c11] at H
              exact absurd H (by simp)
          · rw [if_neg c10] at H
            have c10b0 : decide (0 < t106) = false := decide_eq_false c10
            clear c10
            replace H := Option.bind_eq_some_iff.mp H
            obtain ⟨t111, A180, H⟩ := H
            replace H : (if 0 ≤ t111 then (some (shr .u64 t107 t111, wrap64 ((wrap64 ((wrap64 ((mx (wrap64 (t106)) 1) - a1)) - a0)) + t111), 0)) else (none)) = some (r1, r2, r3) := H
            have A18 := Aside0.mk A180
            clear A180
            by_cases c19 : 0 ≤ t111
            · rw [if_pos c19] at H
              have c19b0 := eq_true c19
              have c19b1 : decide (0 ≤ t111) = true := decide_eq_true c19
              clear c19
              obtain ⟨ji20, hji20⟩ : ∃ j_ : Int, (shr .u64 t107 t111) = j_ := ⟨_, rfl⟩
              replace H : (some (ji20, wrap64 ((wrap64 ((wrap64 ((mx (wrap64 (t106)) 1) - a1)) - a0)) + t111), 0)) = some (r1, r2, r3) := by first | (rw [hji20] at H; exact H) | (simp only [hji20] at H ⊢; exact H)
              (try rw [hji20] at A18)
              have hji20_ : (t107 / 2 ^ min t111.toNat 64) = ji20 := hji20
              have hji20z : t111 ≤ 64 → (t107 / 2 ^ t111.toNat) = ji20 := shr_small hji20
              obtain ⟨ji21, hji21⟩ : ∃ j_ : Int, (mx (wrap64 (t106)) 1) = j_ := ⟨_, rfl⟩
              replace H : (some (ji20, wrap64 ((wrap64 ((wrap64 ((ji21) - a1)) - a0)) + t111), 0)) = some (r1, r2, r3) := by first | (rw [hji21] at H; exact H) | (simp only [hji21] at H ⊢; exact H)
              (try rw [hji21] at A18)
              (try (have hji21l : 1 ≤ ji21 := by (rw [← hji21]; unfold mx; (repeat' split) <;> omega)))
              (try (have hji21m : 0 ≤ ji21 := by omega))
              (try (have hji21t : ∀ k_ : Int, Int.tmod ji21 k_ = ji21 % k_ := fun k_ => Int.tmod_eq_emod_of_nonneg (by assumption)))
              have hji21_ : (if (wrap64 (t106)) < 1 then 1 else (wrap64 (t106))) = ji21 := hji21
              simp only [Option.some.injEq, Prod.mk.injEq] at H
              obtain ⟨rfl, rfl, rfl⟩ := H
              go_wp2_with (first | ((with_reducible refine gate_callee (f := 106) rfl ?_); refine goesL_ (some 40) rfl rfl Tryd.func106 (by kernel_rfl) rfl #[.int .u64 t107] rfl (by (try simp only [List.map_toArray, List.map_cons, List.map_nil]); first | done | rfl | (simp only [List.length_drop, List.length_take]; rfl)) ?_; (with_reducible refine (bits_TrailingZeros64.calls t107 t111 _ ?side1 A18.out).mono ?_); (case side1 => exact Glob.below HG.out (by repeat (first | (with_reducible first | exact HB.out | apply below_alloc | apply pw_below_drewN | apply below_drew1) | exact HB.out))); rintro e w22 ⟨rfl, hb⟩; refine ⟨_, rfl, ?_⟩; have n0_ := Aside0.mk (below_step (by repeat (first | (with_reducible first | exact HB.out | apply below_alloc | apply pw_below_drewN | apply below_drew1) | exact HB.out)) hb); clear HB; have HB := n0_; clear n0_; (try clear hb); (try clear hb2); (try clear hk); (try clear hi)))
              go_ret3
              exact ⟨by first | rfl | (simp [errW_none, errW_some] <;> rfl) | (simp only [← hji20, ← hji21]; first | rfl | (simp [errW_none, errW_some] <;> rfl)) | (simp [*, errW_none, errW_some] <;> rfl), by repeat (first | (with_reducible first | exact HB.out | apply below_alloc | apply pw_below_drewN | apply below_drew1) | exact HB.out)⟩
            · rw [if_neg c19] at H
              exact absurd H (by simp)

def posit_wide.f (a0 : Int) : Option (Unit) := if a0 ≥ 3 then ((posit_must.f (decide (a0 ≤ 65)) 1).bind fun _ => (some ())) else ((posit_must.f false 1).bind fun _ => (some ()))
set_option maxHeartbeats 8000000 in
set_option maxRecDepth 100000 in
theorem posit_wide.calls (a0 : Int) (w : World) (h : posit_wide.f a0 = some ()) :
    Calls Tryd.prog 111 #[.int .i64 a0] w fun e w' => e = .returned (.tuple #[]) ∧ Below w.heap.size w w' := by
  have HB := Aside0.mk (Below.refl w.heap.size w)
  have H : (if a0 ≥ 3 then ((posit_must.f (decide (a0 ≤ 65)) 1).bind fun _ => (some ())) else ((posit_must.f false 1).bind fun _ => (some ()))) = some () := h
  clear h
  by_cases c2 : a0 ≥ 3
  · rw [if_pos c2] at H
    have c2b0 : decide (3 ≤ a0) = true := decide_eq_true c2
    clear c2
    replace H := Option.bind_eq_some_iff.mp H
    obtain ⟨_, A30, H⟩ := H
    replace H : (some ()) = some () := H
    have A3 := Aside0.mk A30
    clear A30
    go_enter Tryd.func111, Tryd.ntmps111
    go_wp2_with (first | ((with_reducible refine gate_callee (f := 112) rfl ?_); refine goesL_ (some 8) rfl rfl Tryd.func112 (by kernel_rfl) rfl #[.bool (decide (a0 ≤ 65)), .int .i64 1] rfl (by (try simp only [List.map_toArray, List.map_cons, List.map_nil]); first | done | rfl | (simp only [List.length_drop, List.length_take]; rfl)) ?_; (with_reducible refine (posit_must.calls (decide (a0 ≤ 65)) 1  _ A3.out).mono ?_); rintro e w4 ⟨rfl, hb⟩; refine ⟨_, rfl, ?_⟩; have n0_ := Aside0.mk (below_step (by repeat (first | (with_reducible first | exact HB.out | apply below_alloc | apply pw_below_drewN | apply below_drew1) | exact HB.out)) hb); clear HB; have HB := n0_; clear n0_; (try clear hb); (try clear hb2); (try clear hk); (try clear hi)))
    first | go_end0 | ((try simp only [Exit.inBlock, Exit.then]); refine bodyPost_ret (results_none rfl _ _ _) rfl ?_)
    exact ⟨by first | rfl | (simp [errW_none, errW_some] <;> rfl) | (simp [*, errW_none, errW_some] <;> rfl), by repeat (first | (with_reducible first | exact HB.out | apply below_alloc | apply pw_below_drewN | apply below_drew1) | exact HB.out)⟩
  · rw [if_neg c2] at H
    have c2b0 : decide (3 ≤ a0) = false := decide_eq_false c2
    clear c2
    replace H := Option.bind_eq_some_iff.mp H
    obtain ⟨_, A50, H⟩ := H
    replace H : (some ()) = some () := H
    have A5 := Aside0.mk A50
    clear A50
    go_enter Tryd.func111, Tryd.ntmps111
    go_wp2_with (first | ((with_reducible refine gate_callee (f := 112) rfl ?_); refine goesL_ (some 8) rfl rfl Tryd.func112 (by kernel_rfl) rfl #[.bool false, .int .i64 1] rfl (by (try simp only [List.map_toArray, List.map_cons, List.map_nil]); first | done | rfl | (simp only [List.length_drop, List.length_take]; rfl)) ?_; (with_reducible refine (posit_must.calls false 1  _ A5.out).mono ?_); rintro e w6 ⟨rfl, hb⟩; refine ⟨_, rfl, ?_⟩; have n0_ := Aside0.mk (below_step (by repeat (first | (with_reducible first | exact HB.out | apply below_alloc | apply pw_below_drewN | apply below_drew1) | exact HB.out)) hb); clear HB; have HB := n0_; clear n0_; (try clear hb); (try clear hb2); (try clear hk); (try clear hi)))
    first | go_end0 | ((try simp only [Exit.inBlock, Exit.then]); refine bodyPost_ret (results_none rfl _ _ _) rfl ?_)
    exact ⟨by first | rfl | (simp [errW_none, errW_some] <;> rfl) | (simp [*, errW_none, errW_some] <;> rfl), by repeat (first | (with_reducible first | exact HB.out | apply below_alloc | apply pw_below_drewN | apply below_drew1) | exact HB.out)⟩

def posit_split.j0 : Nat → Int → Int → Option (Int × Int × Int × Int)
  | 0, _, _ => none
  | k + 1, x1, x5 => if 0 ≤ (wrap64 (64 - x5)) then ((bits_LeadingZeros64.f (shl .u64 x1 (wrap64 (64 - x5)))).bind fun t113 => (if t113 = 0 then ((bits_LeadingZeros64.f (Go.bits .xor .u64 18446744073709551615 (shl .u64 x1 (wrap64 (64 - x5))))).bind fun t114 => (some (wrap64 ((mn t114 x5) - 1), wrap64 (shl .u64 (shr .u64 (Go.bits .and .u64 x1 (IntKind.u64.wrap ((shl .u64 1 (mx (wrap64 ((wrap64 (x5 - (mn t114 x5))) - 1)) 0)) - 1))) (mx (wrap64 ((mx (wrap64 ((wrap64 (x5 - (mn t114 x5))) - 1)) 0) - 2)) 0)) (mx (wrap64 (2 - (mx (wrap64 ((wrap64 (x5 - (mn t114 x5))) - 1)) 0))) 0)), Go.bits .and .u64 (Go.bits .and .u64 x1 (IntKind.u64.wrap ((shl .u64 1 (mx (wrap64 ((wrap64 (x5 - (mn t114 x5))) - 1)) 0)) - 1))) (IntKind.u64.wrap ((shl .u64 1 (mx (wrap64 ((mx (wrap64 ((wrap64 (x5 - (mn t114 x5))) - 1)) 0) - 2)) 0)) - 1)), mx (wrap64 ((mx (wrap64 ((wrap64 (x5 - (mn t114 x5))) - 1)) 0) - 2)) 0))) else (some (wrap64 (-t113), wrap64 (shl .u64 (shr .u64 (Go.bits .and .u64 x1 (IntKind.u64.wrap ((shl .u64 1 (mx (wrap64 ((wrap64 (x5 - t113)) - 1)) 0)) - 1))) (mx (wrap64 ((mx (wrap64 ((wrap64 (x5 - t113)) - 1)) 0) - 2)) 0)) (mx (wrap64 (2 - (mx (wrap64 ((wrap64 (x5 - t113)) - 1)) 0))) 0)), Go.bits .and .u64 (Go.bits .and .u64 x1 (IntKind.u64.wrap ((shl .u64 1 (mx (wrap64 ((wrap64 (x5 - t113)) - 1)) 0)) - 1))) (IntKind.u64.wrap ((shl .u64 1 (mx (wrap64 ((mx (wrap64 ((wrap64 (x5 - t113)) - 1)) 0) - 2)) 0)) - 1)), mx (wrap64 ((mx (wrap64 ((wrap64 (x5 - t113)) - 1)) 0) - 2)) 0)))) else (none)
def posit_split.f (k : Nat) (a0 : Int) (a1 : Int) : Option (Int × Int × Int × Int) := (posit_wide.f a0).bind fun _ => (if a1 = 0 then ((posit_must.f false 1).bind fun _ => (posit_split.j0 k a1 (wrap64 (a0 - 1)))) else (if 0 ≤ (wrap64 ((wrap64 (a0 - 1)) - 1)) then ((posit_must.f (((shr .u64 a1 (wrap64 ((wrap64 (a0 - 1)) - 1))) / 2) == 0) 1).bind fun _ => (posit_split.j0 k a1 (wrap64 (a0 - 1)))) else (none)))
set_option maxHeartbeats 8000000 in
set_option maxRecDepth 100000 in
theorem posit_split.calls (k : Nat) (a0 : Int) (a1 : Int) (r1 : Int) (r2 : Int) (r3 : Int) (r4 : Int) (w : World) (h : posit_split.f k a0 a1 = some (r1, r2, r3, r4)) :
    Calls Tryd.prog 109 #[.int .i64 a0, .int .u64 a1] w fun e w' => e = .returned (.agg #[.int .i64 r1, .int .i64 r2, .int .u64 r3, .int .i64 r4]) ∧ Below w.heap.size w w' := by
  have hu143 := Tryd.underlying143
  have HB := Aside0.mk (Below.refl w.heap.size w)
  have H : ((posit_wide.f a0).bind fun _ => (if a1 = 0 then ((posit_must.f false 1).bind fun _ => (posit_split.j0 k a1 (wrap64 (a0 - 1)))) else (if 0 ≤ (wrap64 ((wrap64 (a0 - 1)) - 1)) then ((posit_must.f (((shr .u64 a1 (wrap64 ((wrap64 (a0 - 1)) - 1))) / 2) == 0) 1).bind fun _ => (posit_split.j0 k a1 (wrap64 (a0 - 1)))) else (none)))) = some (r1, r2, r3, r4) := h
  clear h
  replace H := Option.bind_eq_some_iff.mp H
  obtain ⟨_, A30, H⟩ := H
  replace H : (if a1 = 0 then ((posit_must.f false 1).bind fun _ => (posit_split.j0 k a1 (wrap64 (a0 - 1)))) else (if 0 ≤ (wrap64 ((wrap64 (a0 - 1)) - 1)) then ((posit_must.f (((shr .u64 a1 (wrap64 ((wrap64 (a0 - 1)) - 1))) / 2) == 0) 1).bind fun _ => (posit_split.j0 k a1 (wrap64 (a0 - 1)))) else (none))) = some (r1, r2, r3, r4) := H
  have A3 := Aside0.mk A30
  clear A30
  have HC4 := Aside0.mk H
  clear H
  go_enter Tryd.func109, Tryd.ntmps109
  go_upto_region 3 with (first | ((with_reducible refine gate_dst (N := 4) rfl ?_); refine box_event ?hg (N := 4) ?hd (cs := #[.int .i64 0, .int .i64 0, .int .u64 0, .int .i64 0]) (t := 143) ?hr ?_; (case hd => rfl); (case hg => rfl); (case hr => first | (go_simp; done) | (go_simp; rfl)); intro gb112 hg w5 hbox hb; have n0_ := Aside0.mk (below_step (by repeat (first | (with_reducible first | exact HB.out | apply below_alloc | apply pw_below_drewN | apply below_drew1) | exact HB.out)) hb); have n1_ := Aside0.mk (hbox); have n2_ := Aside0.mk ((by rw [hg]; exact (below_size (by repeat (first | (with_reducible first | exact HB.out | apply below_alloc | apply pw_below_drewN | apply below_drew1) | exact HB.out))) : w.heap.size ≤ gb112)); have n3_ := Aside0.mk ((by rw [hg]; exact (below_size (by repeat (first | (with_reducible first | exact HB.out | apply below_alloc | apply pw_below_drewN | apply below_drew1) | exact HB.out))) : w.heap.size ≤ gb112)); clear HB; have HB := n0_; have BK112 := n1_; have GW112 := n2_; have GE112 := n3_; clear n0_ n1_ n2_ n3_; clear hb hbox hg) | ((with_reducible refine gate_callee (f := 111) rfl ?_); refine goesL_ (some 11) rfl rfl Tryd.func111 (by kernel_rfl) rfl #[.int .i64 a0] rfl (by (try simp only [List.map_toArray, List.map_cons, List.map_nil]); first | done | rfl | (simp only [List.length_drop, List.length_take]; rfl)) ?_; (with_reducible refine (posit_wide.calls a0  _ A3.out).mono ?_); rintro e w6 ⟨rfl, hb⟩; refine ⟨_, rfl, ?_⟩; have n0_ := Aside0.mk (blk_below (g := gb112) (o := .cells #[.int .i64 0, .int .i64 0, .int .u64 0, .int .i64 0] 143 (0, 0)) (by (with_reducible repeat (first | refine blk_drewN ?_ _ | refine blk_drew ?_ | refine blk_alloc ?_ _)); exact BK112.out) hb); have n1_ := Aside0.mk (below_step (by repeat (first | (with_reducible first | exact HB.out | apply below_alloc | apply pw_below_drewN | apply below_drew1 | refine below_set ?_ GE112.out) | exact HB.out)) hb); clear BK112; clear HB; have BK112 := n0_; have HB := n1_; clear n0_ n1_; (try clear hb); (try clear hb2); (try clear hk); (try clear hi)))
  (try simp only [Act.put, List.setIfInBounds_toArray, List.set_cons_zero, List.set_cons_succ])
  go_cut [] (fun wc => ∃ (kq : Nat), Aside0 (posit_split.j0 kq a1 (wrap64 (a0 - 1)) = some (r1, r2, r3, r4)) ∧ Aside0 (kq ≤ k) ∧ Aside0 (wc.heap[gb112]? = some (.cells #[.int .i64 0, .int .i64 0, .int .u64 0, .int .i64 0] 143 (0, 0))) ∧ Aside0 (Below w.heap.size w wc))
  case first =>
    have H := HC4.out
    clear HC4
    by_cases c7 : a1 = 0
    · rw [if_pos c7] at H
      have c7b0 : (a1 == 0) = true := beq_iff_eq.mpr c7
      have c7b1 : (a1 != 0) = false := bne_eq_false_iff_eq.mpr c7
      clear c7
      (first | rw [c7b0] | (simp only [i64_w, i32_w]; rw [c7b0]) | skip)
      replace H := Option.bind_eq_some_iff.mp H
      obtain ⟨_, A80, H⟩ := H
      replace H : (posit_split.j0 k a1 (wrap64 (a0 - 1))) = some (r1, r2, r3, r4) := H
      have A8 := Aside0.mk A80
      clear A80
      have H' := Aside0.mk H
      clear H
      go_wp2_with (first | ((with_reducible refine gate_callee (f := 112) rfl ?_); refine goesL_ (some 24) rfl rfl Tryd.func112 (by kernel_rfl) rfl #[.bool false, .int .i64 1] rfl (by (try simp only [List.map_toArray, List.map_cons, List.map_nil]); first | done | rfl | (simp only [List.length_drop, List.length_take]; rfl)) ?_; (with_reducible refine (posit_must.calls false 1  _ A8.out).mono ?_); rintro e w9 ⟨rfl, hb⟩; refine ⟨_, rfl, ?_⟩; have n0_ := Aside0.mk (blk_below (g := gb112) (o := .cells #[.int .i64 0, .int .i64 0, .int .u64 0, .int .i64 0] 143 (0, 0)) (by (with_reducible repeat (first | refine blk_drewN ?_ _ | refine blk_drew ?_ | refine blk_alloc ?_ _)); exact BK112.out) hb); have n1_ := Aside0.mk (below_step (by repeat (first | (with_reducible first | exact HB.out | apply below_alloc | apply pw_below_drewN | apply below_drew1 | refine below_set ?_ GE112.out) | exact HB.out)) hb); clear BK112; clear HB; have BK112 := n0_; have HB := n1_; clear n0_ n1_; (try clear hb); (try clear hb2); (try clear hk); (try clear hi)))
      go_meet
      case rel => exact ⟨_, H', ⟨by first | omega | exact Nat.le_refl _⟩, ⟨by (with_reducible repeat (first | refine blk_drewN ?_ _ | refine blk_drew ?_ | refine blk_alloc ?_ _)); exact BK112.out⟩, ⟨by repeat (first | (with_reducible first | exact HB.out | apply below_alloc | apply pw_below_drewN | apply below_drew1 | refine below_set ?_ GE112.out) | exact HB.out)⟩⟩
    · rw [if_neg c7] at H
      have c7b0 : (a1 == 0) = false := beq_eq_false_iff_ne.mpr c7
      have c7b1 : (a1 != 0) = true := bne_iff_ne.mpr c7
      (first | rw [c7b0] | (simp only [i64_w, i32_w]; rw [c7b0]) | skip)
      obtain ⟨ji10, hji10⟩ : ∃ j_ : Int, (wrap64 ((wrap64 (a0 - 1)) - 1)) = j_ := ⟨_, rfl⟩
      replace H : (if 0 ≤ (ji10) then ((posit_must.f (((shr .u64 a1 (ji10)) / 2) == 0) 1).bind fun _ => (posit_split.j0 k a1 (wrap64 (a0 - 1)))) else (none)) = some (r1, r2, r3, r4) := by first | (rw [hji10] at H; exact H) | (simp only [hji10] at H ⊢; exact H)
      have hji10w : (IntKind.i64.wrap ((wrap64 (a0 - 1)) - 1)) = ji10 := (i64_w _).trans hji10
      by_cases c11 : 0 ≤ (ji10)
      · rw [if_pos c11] at H
        have c11b0 := eq_true c11
        have c11b1 : decide (0 ≤ (ji10)) = true := decide_eq_true c11
        clear c11
        obtain ⟨ji12, hji12⟩ : ∃ j_ : Int, (shr .u64 a1 (ji10)) = j_ := ⟨_, rfl⟩
        replace H : ((posit_must.f (((ji12) / 2) == 0) 1).bind fun _ => (posit_split.j0 k a1 (wrap64 (a0 - 1)))) = some (r1, r2, r3, r4) := by first | (rw [hji12] at H; exact H) | (simp only [hji12] at H ⊢; exact H)
        have hji12_ : (a1 / 2 ^ min (ji10).toNat 64) = ji12 := hji12
        have hji12z : (ji10) ≤ 64 → (a1 / 2 ^ (ji10).toNat) = ji12 := shr_small hji12
        replace H := Option.bind_eq_some_iff.mp H
        obtain ⟨_, A130, H⟩ := H
        replace H : (posit_split.j0 k a1 (wrap64 (a0 - 1))) = some (r1, r2, r3, r4) := H
        have A13 := Aside0.mk A130
        clear A130
        have H' := Aside0.mk H
        clear H
        go_wp2_with (first | ((with_reducible refine gate_callee (f := 112) rfl ?_); refine goesL_ (some 24) rfl rfl Tryd.func112 (by kernel_rfl) rfl #[.bool (((ji12) / 2) == 0), .int .i64 1] rfl (by (try simp only [List.map_toArray, List.map_cons, List.map_nil]); first | done | (simp only [hji12]; rfl) | rfl | (simp only [List.length_drop, List.length_take]; rfl)) ?_; (with_reducible refine (posit_must.calls (((ji12) / 2) == 0) 1  _ A13.out).mono ?_); rintro e w14 ⟨rfl, hb⟩; refine ⟨_, rfl, ?_⟩; have n0_ := Aside0.mk (blk_below (g := gb112) (o := .cells #[.int .i64 0, .int .i64 0, .int .u64 0, .int .i64 0] 143 (0, 0)) (by (with_reducible repeat (first | refine blk_drewN ?_ _ | refine blk_drew ?_ | refine blk_alloc ?_ _)); exact BK112.out) hb); have n1_ := Aside0.mk (below_step (by repeat (first | (with_reducible first | exact HB.out | apply below_alloc | apply pw_below_drewN | apply below_drew1 | refine below_set ?_ GE112.out) | exact HB.out)) hb); clear BK112; clear HB; have BK112 := n0_; have HB := n1_; clear n0_ n1_; (try clear hb); (try clear hb2); (try clear hk); (try clear hi)))
        go_meet
        case rel => exact ⟨_, H', ⟨by first | omega | exact Nat.le_refl _⟩, ⟨by (with_reducible repeat (first | refine blk_drewN ?_ _ | refine blk_drew ?_ | refine blk_alloc ?_ _)); exact BK112.out⟩, ⟨by repeat (first | (with_reducible first | exact HB.out | apply below_alloc | apply pw_below_drewN | apply below_drew1 | refine below_set ?_ GE112.out) | exact HB.out)⟩⟩
      · rw [if_neg c11] at H
        exact absurd H (by simp)
  case rest =>
    clear HC4
    try clear c1
    try clear p2
    try clear p6
    try clear c7
    try clear c7b0
    try clear c7b1
    try clear c10
    try clear c11
    try clear c11b0
    try clear c11b1
    obtain ⟨kq, HA, HJ3, BK112, HB⟩ := hcut
    cases kq with
    | zero => exact absurd HA.out (by simp [posit_split.j0])
    | succ kj3 =>
      have H := HA.out
      clear HA
      simp only [posit_split.j0] at H
      obtain ⟨ji15, hji15⟩ : ∃ j_ : Int, (wrap64 (64 - (wrap64 (a0 - 1)))) = j_ := ⟨_, rfl⟩
      replace H : (if 0 ≤ (ji15) then ((bits_LeadingZeros64.f (shl .u64 a1 (ji15))).bind fun t113 => (if t113 = 0 then ((bits_LeadingZeros64.f (Go.bits .xor .u64 18446744073709551615 (shl .u64 a1 (ji15)))).bind fun t114 => (some (wrap64 ((mn t114 (wrap64 (a0 - 1))) - 1), wrap64 (shl .u64 (shr .u64 (Go.bits .and .u64 a1 (IntKind.u64.wrap ((shl .u64 1 (mx (wrap64 ((wrap64 ((wrap64 (a0 - 1)) - (mn t114 (wrap64 (a0 - 1))))) - 1)) 0)) - 1))) (mx (wrap64 ((mx (wrap64 ((wrap64 ((wrap64 (a0 - 1)) - (mn t114 (wrap64 (a0 - 1))))) - 1)) 0) - 2)) 0)) (mx (wrap64 (2 - (mx (wrap64 ((wrap64 ((wrap64 (a0 - 1)) - (mn t114 (wrap64 (a0 - 1))))) - 1)) 0))) 0)), Go.bits .and .u64 (Go.bits .and .u64 a1 (IntKind.u64.wrap ((shl .u64 1 (mx (wrap64 ((wrap64 ((wrap64 (a0 - 1)) - (mn t114 (wrap64 (a0 - 1))))) - 1)) 0)) - 1))) (IntKind.u64.wrap ((shl .u64 1 (mx (wrap64 ((mx (wrap64 ((wrap64 ((wrap64 (a0 - 1)) - (mn t114 (wrap64 (a0 - 1))))) - 1)) 0) - 2)) 0)) - 1)), mx (wrap64 ((mx (wrap64 ((wrap64 ((wrap64 (a0 - 1)) - (mn t114 (wrap64 (a0 - 1))))) - 1)) 0) - 2)) 0))) else (some (wrap64 (-t113), wrap64 (shl .u64 (shr .u64 (Go.bits .and .u64 a1 (IntKind.u64.wrap ((shl .u64 1 (mx (wrap64 ((wrap64 ((wrap64 (a0 - 1)) - t113)) - 1)) 0)) - 1))) (mx (wrap64 ((mx (wrap64 ((wrap64 ((wrap64 (a0 - 1)) - t113)) - 1)) 0) - 2)) 0)) (mx (wrap64 (2 - (mx (wrap64 ((wrap64 ((wrap64 (a0 - 1)) - t113)) - 1)) 0))) 0)), Go.bits .and .u64 (Go.bits .and .u64 a1 (IntKind.u64.wrap ((shl .u64 1 (mx (wrap64 ((wrap64 ((wrap64 (a0 - 1)) - t113)) - 1)) 0)) - 1))) (IntKind.u64.wrap ((shl .u64 1 (mx (wrap64 ((mx (wrap64 ((wrap64 ((wrap64 (a0 - 1)) - t113)) - 1)) 0) - 2)) 0)) - 1)), mx (wrap64 ((mx (wrap64 ((wrap64 ((wrap64 (a0 - 1)) - t113)) - 1)) 0) - 2)) 0)))) else (none)) = some (r1, r2, r3, r4) := by first | (rw [hji15] at H; exact H) | (simp only [hji15] at H ⊢; exact H)
      have hji15w : (IntKind.i64.wrap (64 - (wrap64 (a0 - 1)))) = ji15 := (i64_w _).trans hji15
      by_cases c16 : 0 ≤ (ji15)
      · rw [if_pos c16] at H
        have c16b0 := eq_true c16
        have c16b1 : decide (0 ≤ (ji15)) = true := decide_eq_true c16
        clear c16
        obtain ⟨ji17, hji17⟩ : ∃ j_ : Int, (shl .u64 a1 (ji15)) = j_ := ⟨_, rfl⟩
        replace H : ((bits_LeadingZeros64.f (ji17)).bind fun t113 => (if t113 = 0 then ((bits_LeadingZeros64.f (Go.bits .xor .u64 18446744073709551615 (ji17))).bind fun t114 => (some (wrap64 ((mn t114 (wrap64 (a0 - 1))) - 1), wrap64 (shl .u64 (shr .u64 (Go.bits .and .u64 a1 (IntKind.u64.wrap ((shl .u64 1 (mx (wrap64 ((wrap64 ((wrap64 (a0 - 1)) - (mn t114 (wrap64 (a0 - 1))))) - 1)) 0)) - 1))) (mx (wrap64 ((mx (wrap64 ((wrap64 ((wrap64 (a0 - 1)) - (mn t114 (wrap64 (a0 - 1))))) - 1)) 0) - 2)) 0)) (mx (wrap64 (2 - (mx (wrap64 ((wrap64 ((wrap64 (a0 - 1)) - (mn t114 (wrap64 (a0 - 1))))) - 1)) 0))) 0)), Go.bits .and .u64 (Go.bits .and .u64 a1 (IntKind.u64.wrap ((shl .u64 1 (mx (wrap64 ((wrap64 ((wrap64 (a0 - 1)) - (mn t114 (wrap64 (a0 - 1))))) - 1)) 0)) - 1))) (IntKind.u64.wrap ((shl .u64 1 (mx (wrap64 ((mx (wrap64 ((wrap64 ((wrap64 (a0 - 1)) - (mn t114 (wrap64 (a0 - 1))))) - 1)) 0) - 2)) 0)) - 1)), mx (wrap64 ((mx (wrap64 ((wrap64 ((wrap64 (a0 - 1)) - (mn t114 (wrap64 (a0 - 1))))) - 1)) 0) - 2)) 0))) else (some (wrap64 (-t113), wrap64 (shl .u64 (shr .u64 (Go.bits .and .u64 a1 (IntKind.u64.wrap ((shl .u64 1 (mx (wrap64 ((wrap64 ((wrap64 (a0 - 1)) - t113)) - 1)) 0)) - 1))) (mx (wrap64 ((mx (wrap64 ((wrap64 ((wrap64 (a0 - 1)) - t113)) - 1)) 0) - 2)) 0)) (mx (wrap64 (2 - (mx (wrap64 ((wrap64 ((wrap64 (a0 - 1)) - t113)) - 1)) 0))) 0)), Go.bits .and .u64 (Go.bits .and .u64 a1 (IntKind.u64.wrap ((shl .u64 1 (mx (wrap64 ((wrap64 ((wrap64 (a0 - 1)) - t113)) - 1)) 0)) - 1))) (IntKind.u64.wrap ((shl .u64 1 (mx (wrap64 ((mx (wrap64 ((wrap64 ((wrap64 (a0 - 1)) - t113)) - 1)) 0) - 2)) 0)) - 1)), mx (wrap64 ((mx (wrap64 ((wrap64 ((wrap64 (a0 - 1)) - t113)) - 1)) 0) - 2)) 0)))) = some (r1, r2, r3, r4) := by first | (rw [hji17] at H; exact H) | (simp only [hji17] at H ⊢; exact H)
        have hji17_ : (IntKind.u64.wrap (a1 * 2 ^ min (ji15).toNat 64)) = ji17 := hji17
        have hji17z : (ji15) ≤ 64 → (IntKind.u64.wrap (a1 * 2 ^ (ji15).toNat)) = ji17 := shl_small hji17
        replace H := Option.bind_eq_some_iff.mp H
        obtain ⟨t113, A180, H⟩ := H
        replace H : (if t113 = 0 then ((bits_LeadingZeros64.f (Go.bits .xor .u64 18446744073709551615 (ji17))).bind fun t114 => (some (wrap64 ((mn t114 (wrap64 (a0 - 1))) - 1), wrap64 (shl .u64 (shr .u64 (Go.bits .and .u64 a1 (IntKind.u64.wrap ((shl .u64 1 (mx (wrap64 ((wrap64 ((wrap64 (a0 - 1)) - (mn t114 (wrap64 (a0 - 1))))) - 1)) 0)) - 1))) (mx (wrap64 ((mx (wrap64 ((wrap64 ((wrap64 (a0 - 1)) - (mn t114 (wrap64 (a0 - 1))))) - 1)) 0) - 2)) 0)) (mx (wrap64 (2 - (mx (wrap64 ((wrap64 ((wrap64 (a0 - 1)) - (mn t114 (wrap64 (a0 - 1))))) - 1)) 0))) 0)), Go.bits .and .u64 (Go.bits .and .u64 a1 (IntKind.u64.wrap ((shl .u64 1 (mx (wrap64 ((wrap64 ((wrap64 (a0 - 1)) - (mn t114 (wrap64 (a0 - 1))))) - 1)) 0)) - 1))) (IntKind.u64.wrap ((shl .u64 1 (mx (wrap64 ((mx (wrap64 ((wrap64 ((wrap64 (a0 - 1)) - (mn t114 (wrap64 (a0 - 1))))) - 1)) 0) - 2)) 0)) - 1)), mx (wrap64 ((mx (wrap64 ((wrap64 ((wrap64 (a0 - 1)) - (mn t114 (wrap64 (a0 - 1))))) - 1)) 0) - 2)) 0))) else (some (wrap64 (-t113), wrap64 (shl .u64 (shr .u64 (Go.bits .and .u64 a1 (IntKind.u64.wrap ((shl .u64 1 (mx (wrap64 ((wrap64 ((wrap64 (a0 - 1)) - t113)) - 1)) 0)) - 1))) (mx (wrap64 ((mx (wrap64 ((wrap64 ((wrap64 (a0 - 1)) - t113)) - 1)) 0) - 2)) 0)) (mx (wrap64 (2 - (mx (wrap64 ((wrap64 ((wrap64 (a0 - 1)) - t113)) - 1)) 0))) 0)), Go.bits .and .u64 (Go.bits .and .u64 a1 (IntKind.u64.wrap ((shl .u64 1 (mx (wrap64 ((wrap64 ((wrap64 (a0 - 1)) - t113)) - 1)) 0)) - 1))) (IntKind.u64.wrap ((shl .u64 1 (mx (wrap64 ((mx (wrap64 ((wrap64 ((wrap64 (a0 - 1)) - t113)) - 1)) 0) - 2)) 0)) - 1)), mx (wrap64 ((mx (wrap64 ((wrap64 ((wrap64 (a0 - 1)) - t113)) - 1)) 0) - 2)) 0))) = some (r1, r2, r3, r4) := H
        have A18 := Aside0.mk A180
        clear A180
        by_cases c19 : t113 = 0
        · rw [if_pos c19] at H
          have c19b0 : (t113 == 0) = true := beq_iff_eq.mpr c19
          have c19b1 : (t113 != 0) = false := bne_eq_false_iff_eq.mpr c19
          clear c19
          replace H := Option.bind_eq_some_iff.mp H
          obtain ⟨t114, A200, H⟩ := H
          replace H : (some (wrap64 ((mn t114 (wrap64 (a0 - 1))) - 1), wrap64 (shl .u64 (shr .u64 (Go.bits .and .u64 a1 (IntKind.u64.wrap ((shl .u64 1 (mx (wrap64 ((wrap64 ((wrap64 (a0 - 1)) - (mn t114 (wrap64 (a0 - 1))))) - 1)) 0)) - 1))) (mx (wrap64 ((mx (wrap64 ((wrap64 ((wrap64 (a0 - 1)) - (mn t114 (wrap64 (a0 - 1))))) - 1)) 0) - 2)) 0)) (mx (wrap64 (2 - (mx (wrap64 ((wrap64 ((wrap64 (a0 - 1)) - (mn t114 (wrap64 (a0 - 1))))) - 1)) 0))) 0)), Go.bits .and .u64 (Go.bits .and .u64 a1 (IntKind.u64.wrap ((shl .u64 1 (mx (wrap64 ((wrap64 ((wrap64 (a0 - 1)) - (mn t114 (wrap64 (a0 - 1))))) - 1)) 0)) - 1))) (IntKind.u64.wrap ((shl .u64 1 (mx (wrap64 ((mx (wrap64 ((wrap64 ((wrap64 (a0 - 1)) - (mn t114 (wrap64 (a0 - 1))))) - 1)) 0) - 2)) 0)) - 1)), mx (wrap64 ((mx (wrap64 ((wrap64 ((wrap64 (a0 - 1)) - (mn t114 (wrap64 (a0 - 1))))) - 1)) 0) - 2)) 0)) = some (r1, r2, r3, r4) := H
          have A20 := Aside0.mk A200
          clear A200
          obtain ⟨ji21, hji21⟩ : ∃ j_ : Int, (mn t114 (wrap64 (a0 - 1))) = j_ := ⟨_, rfl⟩
          replace H : (some (wrap64 ((ji21) - 1), wrap64 (shl .u64 (shr .u64 (Go.bits .and .u64 a1 (IntKind.u64.wrap ((shl .u64 1 (mx (wrap64 ((wrap64 ((wrap64 (a0 - 1)) - (ji21))) - 1)) 0)) - 1))) (mx (wrap64 ((mx (wrap64 ((wrap64 ((wrap64 (a0 - 1)) - (ji21))) - 1)) 0) - 2)) 0)) (mx (wrap64 (2 - (mx (wrap64 ((wrap64 ((wrap64 (a0 - 1)) - (ji21))) - 1)) 0))) 0)), Go.bits .and .u64 (Go.bits .and .u64 a1 (IntKind.u64.wrap ((shl .u64 1 (mx (wrap64 ((wrap64 ((wrap64 (a0 - 1)) - (ji21))) - 1)) 0)) - 1))) (IntKind.u64.wrap ((shl .u64 1 (mx (wrap64 ((mx (wrap64 ((wrap64 ((wrap64 (a0 - 1)) - (ji21))) - 1)) 0) - 2)) 0)) - 1)), mx (wrap64 ((mx (wrap64 ((wrap64 ((wrap64 (a0 - 1)) - (ji21))) - 1)) 0) - 2)) 0)) = some (r1, r2, r3, r4) := by first | (rw [hji21] at H; exact H) | (simp only [hji21] at H ⊢; exact H)
          (try rw [hji21] at A18)
          (try rw [hji21] at A20)
          (try (have hji21l : 0 ≤ ji21 := by (rw [← hji21]; unfold mn; (repeat' split) <;> omega)))
          (try (have hji21m : 0 ≤ ji21 := by omega))
          (try (have hji21t : ∀ k_ : Int, Int.tmod ji21 k_ = ji21 % k_ := fun k_ => Int.tmod_eq_emod_of_nonneg (by assumption)))
          have hji21_ : (if (wrap64 (a0 - 1)) < t114 then (wrap64 (a0 - 1)) else t114) = ji21 := hji21
          obtain ⟨ji22, hji22⟩ : ∃ j_ : Int, (mx (wrap64 ((wrap64 ((wrap64 (a0 - 1)) - (ji21))) - 1)) 0) = j_ := ⟨_, rfl⟩
          replace H : (some (wrap64 ((ji21) - 1), wrap64 (shl .u64 (shr .u64 (Go.bits .and .u64 a1 (IntKind.u64.wrap ((shl .u64 1 (ji22)) - 1))) (mx (wrap64 ((ji22) - 2)) 0)) (mx (wrap64 (2 - (ji22))) 0)), Go.bits .and .u64 (Go.bits .and .u64 a1 (IntKind.u64.wrap ((shl .u64 1 (ji22)) - 1))) (IntKind.u64.wrap ((shl .u64 1 (mx (wrap64 ((ji22) - 2)) 0)) - 1)), mx (wrap64 ((ji22) - 2)) 0)) = some (r1, r2, r3, r4) := by first | (rw [hji22] at H; exact H) | (simp only [hji22] at H ⊢; exact H)
          (try rw [hji22] at A18)
          (try rw [hji22] at A20)
          (try (have hji22l : 0 ≤ ji22 := by (rw [← hji22]; unfold mx; (repeat' split) <;> omega)))
          (try (have hji22m : 0 ≤ ji22 := by omega))
          (try (have hji22t : ∀ k_ : Int, Int.tmod ji22 k_ = ji22 % k_ := fun k_ => Int.tmod_eq_emod_of_nonneg (by assumption)))
          have hji22_ : (if (wrap64 ((wrap64 ((wrap64 (a0 - 1)) - (ji21))) - 1)) < 0 then 0 else (wrap64 ((wrap64 ((wrap64 (a0 - 1)) - (ji21))) - 1))) = ji22 := hji22
          obtain ⟨ji23, hji23⟩ : ∃ j_ : Int, (shl .u64 1 (ji22)) = j_ := ⟨_, rfl⟩
          replace H : (some (wrap64 ((ji21) - 1), wrap64 (shl .u64 (shr .u64 (Go.bits .and .u64 a1 (IntKind.u64.wrap ((ji23) - 1))) (mx (wrap64 ((ji22) - 2)) 0)) (mx (wrap64 (2 - (ji22))) 0)), Go.bits .and .u64 (Go.bits .and .u64 a1 (IntKind.u64.wrap ((ji23) - 1))) (IntKind.u64.wrap ((shl .u64 1 (mx (wrap64 ((ji22) - 2)) 0)) - 1)), mx (wrap64 ((ji22) - 2)) 0)) = some (r1, r2, r3, r4) := by first | (rw [hji23] at H; exact H) | (simp only [hji23] at H ⊢; exact H)
          (try rw [hji23] at A18)
          (try rw [hji23] at A20)
          have hji23_ : (IntKind.u64.wrap (1 * 2 ^ min (ji22).toNat 64)) = ji23 := hji23
          have hji23z : (ji22) ≤ 64 → (IntKind.u64.wrap (1 * 2 ^ (ji22).toNat)) = ji23 := shl_small hji23
          have hji23u : (IntKind.u64.wrap (2 ^ min (ji22).toNat 64)) = ji23 := by have h_ := hji23_; rw [Int.one_mul] at h_; exact h_
          have hji23v : (ji22) ≤ 64 → (IntKind.u64.wrap (2 ^ (ji22).toNat)) = ji23 := fun hle_ => by have h_ := hji23z hle_; rw [Int.one_mul] at h_; exact h_
          obtain ⟨ji24, hji24⟩ : ∃ j_ : Int, (mx (wrap64 ((ji22) - 2)) 0) = j_ := ⟨_, rfl⟩
          replace H : (some (wrap64 ((ji21) - 1), wrap64 (shl .u64 (shr .u64 (Go.bits .and .u64 a1 (IntKind.u64.wrap ((ji23) - 1))) (ji24)) (mx (wrap64 (2 - (ji22))) 0)), Go.bits .and .u64 (Go.bits .and .u64 a1 (IntKind.u64.wrap ((ji23) - 1))) (IntKind.u64.wrap ((shl .u64 1 (ji24)) - 1)), ji24)) = some (r1, r2, r3, r4) := by first | (rw [hji24] at H; exact H) | (simp only [hji24] at H ⊢; exact H)
          (try rw [hji24] at A18)
          (try rw [hji24] at A20)
          (try (have hji24l : 0 ≤ ji24 := by (rw [← hji24]; unfold mx; (repeat' split) <;> omega)))
          (try (have hji24m : 0 ≤ ji24 := by omega))
          (try (have hji24t : ∀ k_ : Int, Int.tmod ji24 k_ = ji24 % k_ := fun k_ => Int.tmod_eq_emod_of_nonneg (by assumption)))
          have hji24_ : (if (wrap64 ((ji22) - 2)) < 0 then 0 else (wrap64 ((ji22) - 2))) = ji24 := hji24
          obtain ⟨ji25, hji25⟩ : ∃ j_ : Int, (shr .u64 (Go.bits .and .u64 a1 (IntKind.u64.wrap ((ji23) - 1))) (ji24)) = j_ := ⟨_, rfl⟩
          replace H : (some (wrap64 ((ji21) - 1), wrap64 (shl .u64 (ji25) (mx (wrap64 (2 - (ji22))) 0)), Go.bits .and .u64 (Go.bits .and .u64 a1 (IntKind.u64.wrap ((ji23) - 1))) (IntKind.u64.wrap ((shl .u64 1 (ji24)) - 1)), ji24)) = some (r1, r2, r3, r4) := by first | (rw [hji25] at H; exact H) | (simp only [hji25] at H ⊢; exact H)
          (try rw [hji25] at A18)
          (try rw [hji25] at A20)
          have hji25_ : ((Go.bits .and .u64 a1 (IntKind.u64.wrap ((ji23) - 1))) / 2 ^ min (ji24).toNat 64) = ji25 := hji25
          have hji25z : (ji24) ≤ 64 → ((Go.bits .and .u64 a1 (IntKind.u64.wrap ((ji23) - 1))) / 2 ^ (ji24).toNat) = ji25 := shr_small hji25
          obtain ⟨ji26, hji26⟩ : ∃ j_ : Int, (mx (wrap64 (2 - (ji22))) 0) = j_ := ⟨_, rfl⟩
          replace H : (some (wrap64 ((ji21) - 1), wrap64 (shl .u64 (ji25) (ji26)), Go.bits .and .u64 (Go.bits .and .u64 a1 (IntKind.u64.wrap ((ji23) - 1))) (IntKind.u64.wrap ((shl .u64 1 (ji24)) - 1)), ji24)) = some (r1, r2, r3, r4) := by first | (rw [hji26] at H; exact H) | (simp only [hji26] at H ⊢; exact H)
          (try rw [hji26] at A18)
          (try rw [hji26] at A20)
          (try (have hji26l : 0 ≤ ji26 := by (rw [← hji26]; unfold mx; (repeat' split) <;> omega)))
          (try (have hji26m : 0 ≤ ji26 := by omega))
          (try (have hji26t : ∀ k_ : Int, Int.tmod ji26 k_ = ji26 % k_ := fun k_ => Int.tmod_eq_emod_of_nonneg (by assumption)))
          have hji26_ : (if (wrap64 (2 - (ji22))) < 0 then 0 else (wrap64 (2 - (ji22)))) = ji26 := hji26
          obtain ⟨ji27, hji27⟩ : ∃ j_ : Int, (shl .u64 (ji25) (ji26)) = j_ := ⟨_, rfl⟩
          replace H : (some (wrap64 ((ji21) - 1), wrap64 (ji27), Go.bits .and .u64 (Go.bits .and .u64 a1 (IntKind.u64.wrap ((ji23) - 1))) (IntKind.u64.wrap ((shl .u64 1 (ji24)) - 1)), ji24)) = some (r1, r2, r3, r4) := by first | (rw [hji27] at H; exact H) | (simp only [hji27] at H ⊢; exact H)
          (try rw [hji27] at A18)
          (try rw [hji27] at A20)
          have hji27_ : (IntKind.u64.wrap ((ji25) * 2 ^ min (ji26).toNat 64)) = ji27 := hji27
          have hji27z : (ji26) ≤ 64 → (IntKind.u64.wrap ((ji25) * 2 ^ (ji26).toNat)) = ji27 := shl_small hji27
          obtain ⟨ji28, hji28⟩ : ∃ j_ : Int, (shl .u64 1 (ji24)) = j_ := ⟨_, rfl⟩
          replace H : (some (wrap64 ((ji21) - 1), wrap64 (ji27), Go.bits .and .u64 (Go.bits .and .u64 a1 (IntKind.u64.wrap ((ji23) - 1))) (IntKind.u64.wrap ((ji28) - 1)), ji24)) = some (r1, r2, r3, r4) := by first | (rw [hji28] at H; exact H) | (simp only [hji28] at H ⊢; exact H)
          (try rw [hji28] at A18)
          (try rw [hji28] at A20)
          have hji28_ : (IntKind.u64.wrap (1 * 2 ^ min (ji24).toNat 64)) = ji28 := hji28
          have hji28z : (ji24) ≤ 64 → (IntKind.u64.wrap (1 * 2 ^ (ji24).toNat)) = ji28 := shl_small hji28
          have hji28u : (IntKind.u64.wrap (2 ^ min (ji24).toNat 64)) = ji28 := by have h_ := hji28_; rw [Int.one_mul] at h_; exact h_
          have hji28v : (ji24) ≤ 64 → (IntKind.u64.wrap (2 ^ (ji24).toNat)) = ji28 := fun hle_ => by have h_ := hji28z hle_; rw [Int.one_mul] at h_; exact h_
          simp only [Option.some.injEq, Prod.mk.injEq] at H
          obtain ⟨rfl, rfl, rfl, rfl⟩ := H
          go_wp2_with (first | ((with_reducible refine gate_callee (f := 113) rfl ?_); refine goesL_ (some 30) rfl rfl Tryd.func113 (by kernel_rfl) rfl #[.int .u64 ji17] rfl (by (try simp only [List.map_toArray, List.map_cons, List.map_nil]); first | done | (simp only [hji17]; rfl) | rfl | (simp only [List.length_drop, List.length_take]; rfl)) ?_; (with_reducible refine (bits_LeadingZeros64.calls ji17 t113 _ A18.out).mono ?_); rintro e w' ⟨rfl, ⟨nd, rfl⟩⟩; refine ⟨_, rfl, ?_⟩; (try (rw [drewN_self wc]; generalize hq_ : World.drewN wc _ = wc; have n0_ : Aside0 (wc.heap[gb112]? = some (.cells #[.int .i64 0, .int .i64 0, .int .u64 0, .int .i64 0] 143 (0, 0))) := ⟨by rw [← hq_]; exact (by (with_reducible repeat (first | refine blk_drewN ?_ _ | refine blk_drew ?_ | refine blk_alloc ?_ _)); exact BK112.out)⟩; have n1_ : Aside0 (Below w.heap.size w wc) := ⟨by rw [← hq_]; exact (by repeat (first | (with_reducible first | exact HB.out | apply below_alloc | apply pw_below_drewN | apply below_drew1 | refine below_set ?_ GE112.out) | exact HB.out))⟩; clear BK112 HB hq_; have BK112 := n0_; have HB := n1_; clear n0_ n1_)); have hcz29_0 : wc.cell? ⟨gb112, 0, none⟩ = some (.int .i64 0) := (blk_cell BK112.out 0).trans rfl; have hcz29_1 : wc.cell? ⟨gb112, 1, none⟩ = some (.int .i64 0) := (blk_cell BK112.out 1).trans rfl; have hcz29_2 : wc.cell? ⟨gb112, 2, none⟩ = some (.int .u64 0) := (blk_cell BK112.out 2).trans rfl; have hcz29_3 : wc.cell? ⟨gb112, 3, none⟩ = some (.int .i64 0) := (blk_cell BK112.out 3).trans rfl; have hfz29_0 := blk_frozen BK112.out 0; have hfz29_1 := blk_frozen BK112.out 1; have hfz29_2 := blk_frozen BK112.out 2; have hfz29_3 := blk_frozen BK112.out 3) | ((with_reducible refine gate_callee (f := 113) rfl ?_); refine goesL_ (some 38) rfl rfl Tryd.func113 (by kernel_rfl) rfl #[.int .u64 (Go.bits .xor .u64 18446744073709551615 (ji17))] rfl (by (try simp only [List.map_toArray, List.map_cons, List.map_nil]); first | done | (simp only [hji17]; rfl) | rfl | (simp only [List.length_drop, List.length_take]; rfl)) ?_; (with_reducible refine (bits_LeadingZeros64.calls (Go.bits .xor .u64 18446744073709551615 (ji17)) t114 _ A20.out).mono ?_); rintro e w' ⟨rfl, ⟨nd, rfl⟩⟩; refine ⟨_, rfl, ?_⟩))
          refine bodyPost_ret (results_cell_row rfl _ _ gb112 143 #[.int .i64 (wrap64 ((ji21) - 1)), .int .i64 (wrap64 (ji27)), .int .u64 (Go.bits .and .u64 (Go.bits .and .u64 a1 (IntKind.u64.wrap ((ji23) - 1))) (IntKind.u64.wrap ((ji28) - 1))), .int .i64 ji24] (0, 0) _ rfl (by (with_reducible repeat (first | refine blk_drewN ?_ _ | refine blk_drew ?_ | refine blk_alloc ?_ _)); refine blk_put (cs := #[.int .i64 (wrap64 ((ji21) - 1)), .int .i64 (wrap64 (ji27)), .int .u64 (Go.bits .and .u64 (Go.bits .and .u64 a1 (IntKind.u64.wrap ((ji23) - 1))) (IntKind.u64.wrap ((ji28) - 1))), .int .i64 ji24]) ?_ 3 _ rfl; (with_reducible repeat (first | refine blk_drewN ?_ _ | refine blk_drew ?_ | refine blk_alloc ?_ _)); refine blk_put (cs := #[.int .i64 (wrap64 ((ji21) - 1)), .int .i64 (wrap64 (ji27)), .int .u64 (Go.bits .and .u64 (Go.bits .and .u64 a1 (IntKind.u64.wrap ((ji23) - 1))) (IntKind.u64.wrap ((ji28) - 1))), .int .i64 ji24]) ?_ 2 _ rfl; (with_reducible repeat (first | refine blk_drewN ?_ _ | refine blk_drew ?_ | refine blk_alloc ?_ _)); refine blk_put (cs := #[.int .i64 (wrap64 ((ji21) - 1)), .int .i64 (wrap64 (ji27)), .int .u64 (Go.bits .and .u64 (Go.bits .and .u64 a1 (IntKind.u64.wrap ((ji23) - 1))) (IntKind.u64.wrap ((ji28) - 1))), .int .i64 ji24]) ?_ 1 _ rfl; (with_reducible repeat (first | refine blk_drewN ?_ _ | refine blk_drew ?_ | refine blk_alloc ?_ _)); refine blk_put (cs := #[.int .i64 (wrap64 ((ji21) - 1)), .int .i64 (wrap64 (ji27)), .int .u64 (Go.bits .and .u64 (Go.bits .and .u64 a1 (IntKind.u64.wrap ((ji23) - 1))) (IntKind.u64.wrap ((ji28) - 1))), .int .i64 ji24]) ?_ 0 _ rfl; (with_reducible repeat (first | refine blk_drewN ?_ _ | refine blk_drew ?_ | refine blk_alloc ?_ _)); refine blk_put (cs := #[.int .i64 (wrap64 ((ji21) - 1)), .int .i64 (wrap64 (ji27)), .int .u64 0, .int .i64 ji24]) ?_ 2 _ rfl; (with_reducible repeat (first | refine blk_drewN ?_ _ | refine blk_drew ?_ | refine blk_alloc ?_ _)); refine blk_put (cs := #[.int .i64 (wrap64 ((ji21) - 1)), .int .i64 0, .int .u64 0, .int .i64 ji24]) ?_ 1 _ rfl; (with_reducible repeat (first | refine blk_drewN ?_ _ | refine blk_drew ?_ | refine blk_alloc ?_ _)); refine blk_put (cs := #[.int .i64 (wrap64 ((ji21) - 1)), .int .i64 0, .int .u64 0, .int .i64 0]) ?_ 3 _ rfl; (with_reducible repeat (first | refine blk_drewN ?_ _ | refine blk_drew ?_ | refine blk_alloc ?_ _)); refine blk_put (cs := #[.int .i64 (wrap64 (-t113)), .int .i64 0, .int .u64 0, .int .i64 0]) ?_ 0 _ rfl; (with_reducible repeat (first | refine blk_drewN ?_ _ | refine blk_drew ?_ | refine blk_alloc ?_ _)); refine blk_put (cs := #[.int .i64 0, .int .i64 0, .int .u64 0, .int .i64 0]) ?_ 0 _ rfl; (with_reducible repeat (first | refine blk_drewN ?_ _ | refine blk_drew ?_ | refine blk_alloc ?_ _)); exact BK112.out) Tryd.underlying143 rfl (by kernel_rfl)) rfl ?_
          exact ⟨by first | rfl | (simp [errW_none, errW_some] <;> rfl) | (simp only [← hji15, ← hji17, ← hji21, ← hji22, ← hji23, ← hji24, ← hji25, ← hji26, ← hji27, ← hji28]; first | rfl | (simp [errW_none, errW_some] <;> rfl)) | (simp [*, errW_none, errW_some] <;> rfl), by repeat (first | (with_reducible first | exact HB.out | apply below_alloc | apply pw_below_drewN | apply below_drew1 | refine below_set ?_ GE112.out) | exact HB.out)⟩
        · rw [if_neg c19] at H
          have c19b0 : (t113 == 0) = false := beq_eq_false_iff_ne.mpr c19
          have c19b1 : (t113 != 0) = true := bne_iff_ne.mpr c19
          obtain ⟨ji30, hji30⟩ : ∃ j_ : Int, (mx (wrap64 ((wrap64 ((wrap64 (a0 - 1)) - t113)) - 1)) 0) = j_ := ⟨_, rfl⟩
          replace H : (some (wrap64 (-t113), wrap64 (shl .u64 (shr .u64 (Go.bits .and .u64 a1 (IntKind.u64.wrap ((shl .u64 1 (ji30)) - 1))) (mx (wrap64 ((ji30) - 2)) 0)) (mx (wrap64 (2 - (ji30))) 0)), Go.bits .and .u64 (Go.bits .and .u64 a1 (IntKind.u64.wrap ((shl .u64 1 (ji30)) - 1))) (IntKind.u64.wrap ((shl .u64 1 (mx (wrap64 ((ji30) - 2)) 0)) - 1)), mx (wrap64 ((ji30) - 2)) 0)) = some (r1, r2, r3, r4) := by first | (rw [hji30] at H; exact H) | (simp only [hji30] at H ⊢; exact H)
          (try rw [hji30] at A18)
          (try (have hji30l : 0 ≤ ji30 := by (rw [← hji30]; unfold mx; (repeat' split) <;> omega)))
          (try (have hji30m : 0 ≤ ji30 := by omega))
          (try (have hji30t : ∀ k_ : Int, Int.tmod ji30 k_ = ji30 % k_ := fun k_ => Int.tmod_eq_emod_of_nonneg (by assumption)))
          have hji30_ : (if (wrap64 ((wrap64 ((wrap64 (a0 - 1)) - t113)) - 1)) < 0 then 0 else (wrap64 ((wrap64 ((wrap64 (a0 - 1)) - t113)) - 1))) = ji30 := hji30
          obtain ⟨ji31, hji31⟩ : ∃ j_ : Int, (shl .u64 1 (ji30)) = j_ := ⟨_, rfl⟩
          replace H : (some (wrap64 (-t113), wrap64 (shl .u64 (shr .u64 (Go.bits .and .u64 a1 (IntKind.u64.wrap ((ji31) - 1))) (mx (wrap64 ((ji30) - 2)) 0)) (mx (wrap64 (2 - (ji30))) 0)), Go.bits .and .u64 (Go.bits .and .u64 a1 (IntKind.u64.wrap ((ji31) - 1))) (IntKind.u64.wrap ((shl .u64 1 (mx (wrap64 ((ji30) - 2)) 0)) - 1)), mx (wrap64 ((ji30) - 2)) 0)) = some (r1, r2, r3, r4) := by first | (rw [hji31] at H; exact H) | (simp only [hji31] at H ⊢; exact H)
          (try rw [hji31] at A18)
          have hji31_ : (IntKind.u64.wrap (1 * 2 ^ min (ji30).toNat 64)) = ji31 := hji31
          have hji31z : (ji30) ≤ 64 → (IntKind.u64.wrap (1 * 2 ^ (ji30).toNat)) = ji31 := shl_small hji31
          have hji31u : (IntKind.u64.wrap (2 ^ min (ji30).toNat 64)) = ji31 := by have h_ := hji31_; rw [Int.one_mul] at h_; exact h_
          have hji31v : (ji30) ≤ 64 → (IntKind.u64.wrap (2 ^ (ji30).toNat)) = ji31 := fun hle_ => by have h_ := hji31z hle_; rw [Int.one_mul] at h_; exact h_
          obtain ⟨ji32, hji32⟩ : ∃ j_ : Int, (mx (wrap64 ((ji30) - 2)) 0) = j_ := ⟨_, rfl⟩
          replace H : (some (wrap64 (-t113), wrap64 (shl .u64 (shr .u64 (Go.bits .and .u64 a1 (IntKind.u64.wrap ((ji31) - 1))) (ji32)) (mx (wrap64 (2 - (ji30))) 0)), Go.bits .and .u64 (Go.bits .and .u64 a1 (IntKind.u64.wrap ((ji31) - 1))) (IntKind.u64.wrap ((shl .u64 1 (ji32)) - 1)), ji32)) = some (r1, r2, r3, r4) := by first | (rw [hji32] at H; exact H) | (simp only [hji32] at H ⊢; exact H)
          (try rw [hji32] at A18)
          (try (have hji32l : 0 ≤ ji32 := by (rw [← hji32]; unfold mx; (repeat' split) <;> omega)))
          (try (have hji32m : 0 ≤ ji32 := by omega))
          (try (have hji32t : ∀ k_ : Int, Int.tmod ji32 k_ = ji32 % k_ := fun k_ => Int.tmod_eq_emod_of_nonneg (by assumption)))
          have hji32_ : (if (wrap64 ((ji30) - 2)) < 0 then 0 else (wrap64 ((ji30) - 2))) = ji32 := hji32
          obtain ⟨ji33, hji33⟩ : ∃ j_ : Int, (shr .u64 (Go.bits .and .u64 a1 (IntKind.u64.wrap ((ji31) - 1))) (ji32)) = j_ := ⟨_, rfl⟩
          replace H : (some (wrap64 (-t113), wrap64 (shl .u64 (ji33) (mx (wrap64 (2 - (ji30))) 0)), Go.bits .and .u64 (Go.bits .and .u64 a1 (IntKind.u64.wrap ((ji31) - 1))) (IntKind.u64.wrap ((shl .u64 1 (ji32)) - 1)), ji32)) = some (r1, r2, r3, r4) := by first | (rw [hji33] at H; exact H) | (simp only [hji33] at H ⊢; exact H)
          (try rw [hji33] at A18)
          have hji33_ : ((Go.bits .and .u64 a1 (IntKind.u64.wrap ((ji31) - 1))) / 2 ^ min (ji32).toNat 64) = ji33 := hji33
          have hji33z : (ji32) ≤ 64 → ((Go.bits .and .u64 a1 (IntKind.u64.wrap ((ji31) - 1))) / 2 ^ (ji32).toNat) = ji33 := shr_small hji33
          obtain ⟨ji34, hji34⟩ : ∃ j_ : Int, (mx (wrap64 (2 - (ji30))) 0) = j_ := ⟨_, rfl⟩
          replace H : (some (wrap64 (-t113), wrap64 (shl .u64 (ji33) (ji34)), Go.bits .and .u64 (Go.bits .and .u64 a1 (IntKind.u64.wrap ((ji31) - 1))) (IntKind.u64.wrap ((shl .u64 1 (ji32)) - 1)), ji32)) = some (r1, r2, r3, r4) := by first | (rw [hji34] at H; exact H) | (simp only [hji34] at H ⊢; exact H)
          (try rw [hji34] at A18)
          (try (have hji34l : 0 ≤ ji34 := by (rw [← hji34]; unfold mx; (repeat' split) <;> omega)))
          (try (have hji34m : 0 ≤ ji34 := by omega))
          (try (have hji34t : ∀ k_ : Int, Int.tmod ji34 k_ = ji34 % k_ := fun k_ => Int.tmod_eq_emod_of_nonneg (by assumption)))
          have hji34_ : (if (wrap64 (2 - (ji30))) < 0 then 0 else (wrap64 (2 - (ji30)))) = ji34 := hji34
          obtain ⟨ji35, hji35⟩ : ∃ j_ : Int, (shl .u64 (ji33) (ji34)) = j_ := ⟨_, rfl⟩
          replace H : (some (wrap64 (-t113), wrap64 (ji35), Go.bits .and .u64 (Go.bits .and .u64 a1 (IntKind.u64.wrap ((ji31) - 1))) (IntKind.u64.wrap ((shl .u64 1 (ji32)) - 1)), ji32)) = some (r1, r2, r3, r4) := by first | (rw [hji35] at H; exact H) | (simp only [hji35] at H ⊢; exact H)
          (try rw [hji35] at A18)
          have hji35_ : (IntKind.u64.wrap ((ji33) * 2 ^ min (ji34).toNat 64)) = ji35 := hji35
          have hji35z : (ji34) ≤ 64 → (IntKind.u64.wrap ((ji33) * 2 ^ (ji34).toNat)) = ji35 := shl_small hji35
          obtain ⟨ji36, hji36⟩ : ∃ j_ : Int, (shl .u64 1 (ji32)) = j_ := ⟨_, rfl⟩
          replace H : (some (wrap64 (-t113), wrap64 (ji35), Go.bits .and .u64 (Go.bits .and .u64 a1 (IntKind.u64.wrap ((ji31) - 1))) (IntKind.u64.wrap ((ji36) - 1)), ji32)) = some (r1, r2, r3, r4) := by first | (rw [hji36] at H; exact H) | (simp only [hji36] at H ⊢; exact H)
          (try rw [hji36] at A18)
          have hji36_ : (IntKind.u64.wrap (1 * 2 ^ min (ji32).toNat 64)) = ji36 := hji36
          have hji36z : (ji32) ≤ 64 → (IntKind.u64.wrap (1 * 2 ^ (ji32).toNat)) = ji36 := shl_small hji36
          have hji36u : (IntKind.u64.wrap (2 ^ min (ji32).toNat 64)) = ji36 := by have h_ := hji36_; rw [Int.one_mul] at h_; exact h_
          have hji36v : (ji32) ≤ 64 → (IntKind.u64.wrap (2 ^ (ji32).toNat)) = ji36 := fun hle_ => by have h_ := hji36z hle_; rw [Int.one_mul] at h_; exact h_
          simp only [Option.some.injEq, Prod.mk.injEq] at H
          obtain ⟨rfl, rfl, rfl, rfl⟩ := H
          go_wp2_with (first | ((with_reducible refine gate_callee (f := 113) rfl ?_); refine goesL_ (some 30) rfl rfl Tryd.func113 (by kernel_rfl) rfl #[.int .u64 ji17] rfl (by (try simp only [List.map_toArray, List.map_cons, List.map_nil]); first | done | (simp only [hji17]; rfl) | rfl | (simp only [List.length_drop, List.length_take]; rfl)) ?_; (with_reducible refine (bits_LeadingZeros64.calls ji17 t113 _ A18.out).mono ?_); rintro e w' ⟨rfl, ⟨nd, rfl⟩⟩; refine ⟨_, rfl, ?_⟩; (try (rw [drewN_self wc]; generalize hq_ : World.drewN wc _ = wc; have n0_ : Aside0 (wc.heap[gb112]? = some (.cells #[.int .i64 0, .int .i64 0, .int .u64 0, .int .i64 0] 143 (0, 0))) := ⟨by rw [← hq_]; exact (by (with_reducible repeat (first | refine blk_drewN ?_ _ | refine blk_drew ?_ | refine blk_alloc ?_ _)); exact BK112.out)⟩; have n1_ : Aside0 (Below w.heap.size w wc) := ⟨by rw [← hq_]; exact (by repeat (first | (with_reducible first | exact HB.out | apply below_alloc | apply pw_below_drewN | apply below_drew1 | refine below_set ?_ GE112.out) | exact HB.out))⟩; clear BK112 HB hq_; have BK112 := n0_; have HB := n1_; clear n0_ n1_)); have hcz37_0 : wc.cell? ⟨gb112, 0, none⟩ = some (.int .i64 0) := (blk_cell BK112.out 0).trans rfl; have hcz37_1 : wc.cell? ⟨gb112, 1, none⟩ = some (.int .i64 0) := (blk_cell BK112.out 1).trans rfl; have hcz37_2 : wc.cell? ⟨gb112, 2, none⟩ = some (.int .u64 0) := (blk_cell BK112.out 2).trans rfl; have hcz37_3 : wc.cell? ⟨gb112, 3, none⟩ = some (.int .i64 0) := (blk_cell BK112.out 3).trans rfl; have hfz37_0 := blk_frozen BK112.out 0; have hfz37_1 := blk_frozen BK112.out 1; have hfz37_2 := blk_frozen BK112.out 2; have hfz37_3 := blk_frozen BK112.out 3))
          refine bodyPost_ret (results_cell_row rfl _ _ gb112 143 #[.int .i64 (wrap64 (-t113)), .int .i64 (wrap64 (ji35)), .int .u64 (Go.bits .and .u64 (Go.bits .and .u64 a1 (IntKind.u64.wrap ((ji31) - 1))) (IntKind.u64.wrap ((ji36) - 1))), .int .i64 ji32] (0, 0) _ rfl (by (with_reducible repeat (first | refine blk_drewN ?_ _ | refine blk_drew ?_ | refine blk_alloc ?_ _)); refine blk_put (cs := #[.int .i64 (wrap64 (-t113)), .int .i64 (wrap64 (ji35)), .int .u64 (Go.bits .and .u64 (Go.bits .and .u64 a1 (IntKind.u64.wrap ((ji31) - 1))) (IntKind.u64.wrap ((ji36) - 1))), .int .i64 ji32]) ?_ 3 _ rfl; (with_reducible repeat (first | refine blk_drewN ?_ _ | refine blk_drew ?_ | refine blk_alloc ?_ _)); refine blk_put (cs := #[.int .i64 (wrap64 (-t113)), .int .i64 (wrap64 (ji35)), .int .u64 (Go.bits .and .u64 (Go.bits .and .u64 a1 (IntKind.u64.wrap ((ji31) - 1))) (IntKind.u64.wrap ((ji36) - 1))), .int .i64 ji32]) ?_ 2 _ rfl; (with_reducible repeat (first | refine blk_drewN ?_ _ | refine blk_drew ?_ | refine blk_alloc ?_ _)); refine blk_put (cs := #[.int .i64 (wrap64 (-t113)), .int .i64 (wrap64 (ji35)), .int .u64 (Go.bits .and .u64 (Go.bits .and .u64 a1 (IntKind.u64.wrap ((ji31) - 1))) (IntKind.u64.wrap ((ji36) - 1))), .int .i64 ji32]) ?_ 1 _ rfl; (with_reducible repeat (first | refine blk_drewN ?_ _ | refine blk_drew ?_ | refine blk_alloc ?_ _)); refine blk_put (cs := #[.int .i64 (wrap64 (-t113)), .int .i64 (wrap64 (ji35)), .int .u64 (Go.bits .and .u64 (Go.bits .and .u64 a1 (IntKind.u64.wrap ((ji31) - 1))) (IntKind.u64.wrap ((ji36) - 1))), .int .i64 ji32]) ?_ 0 _ rfl; (with_reducible repeat (first | refine blk_drewN ?_ _ | refine blk_drew ?_ | refine blk_alloc ?_ _)); refine blk_put (cs := #[.int .i64 (wrap64 (-t113)), .int .i64 (wrap64 (ji35)), .int .u64 0, .int .i64 ji32]) ?_ 2 _ rfl; (with_reducible repeat (first | refine blk_drewN ?_ _ | refine blk_drew ?_ | refine blk_alloc ?_ _)); refine blk_put (cs := #[.int .i64 (wrap64 (-t113)), .int .i64 0, .int .u64 0, .int .i64 ji32]) ?_ 1 _ rfl; (with_reducible repeat (first | refine blk_drewN ?_ _ | refine blk_drew ?_ | refine blk_alloc ?_ _)); refine blk_put (cs := #[.int .i64 (wrap64 (-t113)), .int .i64 0, .int .u64 0, .int .i64 0]) ?_ 3 _ rfl; (with_reducible repeat (first | refine blk_drewN ?_ _ | refine blk_drew ?_ | refine blk_alloc ?_ _)); refine blk_put (cs := #[.int .i64 0, .int .i64 0, .int .u64 0, .int .i64 0]) ?_ 0 _ rfl; (with_reducible repeat (first | refine blk_drewN ?_ _ | refine blk_drew ?_ | refine blk_alloc ?_ _)); exact BK112.out) Tryd.underlying143 rfl (by kernel_rfl)) rfl ?_
          exact ⟨by first | rfl | (simp [errW_none, errW_some] <;> rfl) | (simp only [← hji15, ← hji17, ← hji30, ← hji31, ← hji32, ← hji33, ← hji34, ← hji35, ← hji36]; first | rfl | (simp [errW_none, errW_some] <;> rfl)) | (simp [*, errW_none, errW_some] <;> rfl), by repeat (first | (with_reducible first | exact HB.out | apply below_alloc | apply pw_below_drewN | apply below_drew1 | refine below_set ?_ GE112.out) | exact HB.out)⟩
      · rw [if_neg c16] at H
        exact absurd H (by simp)

def posit_odd.f (a0 : Int) (a1 : Int) : Option (Int × Int) := (bits_TrailingZeros64.f a0).bind fun t115 => (if 0 ≤ t115 then (some (shr .u64 a0 t115, wrap64 (a1 + t115))) else (none))
set_option maxHeartbeats 8000000 in
set_option maxRecDepth 100000 in
theorem posit_odd.calls (a0 : Int) (a1 : Int) (r1 : Int) (r2 : Int) (w : World) (hG : Glob w) (h : posit_odd.f a0 a1 = some (r1, r2)) :
    Calls Tryd.prog 110 #[.int .u64 a0, .int .i64 a1] w fun e w' => e = .returned (.tuple #[.int .u64 r1, .int .i64 r2]) ∧ Below w.heap.size w w' := by
  have HG := Aside0.mk hG
  clear hG
  have HB := Aside0.mk (Below.refl w.heap.size w)
  have H : ((bits_TrailingZeros64.f a0).bind fun t115 => (if 0 ≤ t115 then (some (shr .u64 a0 t115, wrap64 (a1 + t115))) else (none))) = some (r1, r2) := h
  clear h
  replace H := Option.bind_eq_some_iff.mp H
  obtain ⟨t115, A30, H⟩ := H
  replace H : (if 0 ≤ t115 then (some (shr .u64 a0 t115, wrap64 (a1 + t115))) else (none)) = some (r1, r2) := H
  have A3 := Aside0.mk A30
  clear A30
  by_cases c4 : 0 ≤ t115
  · rw [if_pos c4] at H
    have c4b0 := eq_true c4
    have c4b1 : decide (0 ≤ t115) = true := decide_eq_true c4
    clear c4
    obtain ⟨ji5, hji5⟩ : ∃ j_ : Int, (shr .u64 a0 t115) = j_ := ⟨_, rfl⟩
    replace H : (some (ji5, wrap64 (a1 + t115))) = some (r1, r2) := by first | (rw [hji5] at H; exact H) | (simp only [hji5] at H ⊢; exact H)
    (try rw [hji5] at A3)
    have hji5_ : (a0 / 2 ^ min t115.toNat 64) = ji5 := hji5
    have hji5z : t115 ≤ 64 → (a0 / 2 ^ t115.toNat) = ji5 := shr_small hji5
    simp only [Option.some.injEq, Prod.mk.injEq] at H
    obtain ⟨rfl, rfl⟩ := H
    go_enter Tryd.func110, Tryd.ntmps110
    go_wp2_with (first | ((with_reducible refine gate_callee (f := 106) rfl ?_); refine goesL_ (some 8) rfl rfl Tryd.func106 (by kernel_rfl) rfl #[.int .u64 a0] rfl (by (try simp only [List.map_toArray, List.map_cons, List.map_nil]); first | done | rfl | (simp only [List.length_drop, List.length_take]; rfl)) ?_; (with_reducible refine (bits_TrailingZeros64.calls a0 t115 _ ?side1 A3.out).mono ?_); (case side1 => exact Glob.below HG.out (by repeat (first | (with_reducible first | exact HB.out | apply below_alloc | apply pw_below_drewN | apply below_drew1) | exact HB.out))); rintro e w6 ⟨rfl, hb⟩; refine ⟨_, rfl, ?_⟩; have n0_ := Aside0.mk (below_step (by repeat (first | (with_reducible first | exact HB.out | apply below_alloc | apply pw_below_drewN | apply below_drew1) | exact HB.out)) hb); clear HB; have HB := n0_; clear n0_; (try clear hb); (try clear hb2); (try clear hk); (try clear hi)))
    go_ret2
    exact ⟨by first | rfl | (simp [errW_none, errW_some] <;> rfl) | (simp only [← hji5]; first | rfl | (simp [errW_none, errW_some] <;> rfl)) | (simp [*, errW_none, errW_some] <;> rfl), by repeat (first | (with_reducible first | exact HB.out | apply below_alloc | apply pw_below_drewN | apply below_drew1) | exact HB.out)⟩
  · rw [if_neg c4] at H
    exact absurd H (by simp)

def posit_value.f (k : Nat) (a0 : Int) (a1 : Int) : Option (Int × Int) := (posit_split.f k a0 a1).bind fun bt116 => (if 0 ≤ bt116.2.2.2 then ((posit_odd.f (Go.bits .or .u64 (shl .u64 1 bt116.2.2.2) bt116.2.2.1) (wrap64 ((wrap64 ((wrap64 (bt116.1 * 4)) + bt116.2.1)) - bt116.2.2.2))).bind fun bt121 => (some (bt121.1, bt121.2))) else (none))
def posit_value.T2 : Bool × List (List Nat × List Nat) := (true, [([], []), ([0], [0]), ([1], [1]), ([], []), ([3], [3]), ([2, 4], [2, 4]), ([], []), ([6], [6]), ([7], [7]), ([], []), ([9], [9]), ([8, 10], [8, 10]), ([], []), ([12], [12]), ([11, 13], [11, 13]), ([5, 14], [5, 14]), ([15], [15]), ([15], [15]), ([16, 15, 0, 1, 2, 3, 4, 5, 6, 7, 8, 9, 10, 11, 12, 13, 14, 15, 16, 17], [16]), ([17, 18, 0, 1, 2, 3, 4, 5, 6, 7, 8, 9, 10, 11, 12, 13, 14, 15, 16, 17, 18], [17])])
def posit_value.B2 : List Nat := [0, 1, 3, 0, 8, 31, 0, 64, 192, 0, 512, 1984, 0, 4096, 16320, 32767, 65535, 65535, 262143, 524287]
theorem posit_value.tab2 : rtab .any (opsOf Tryd.f103 2) = posit_value.T2 := by kernel_rfl
theorem posit_value.bits2 : waitsOk posit_value.T2.2 posit_value.B2 = true := by kernel_rfl
set_option maxHeartbeats 8000000 in
set_option maxRecDepth 100000 in
theorem posit_value.calls (k : Nat) (a0 : Int) (a1 : Int) (r1 : Int) (r2 : Int) (w : World) (hG : Glob w) (h : posit_value.f k a0 a1 = some (r1, r2)) :
    Calls Tryd.prog 103 #[.int .i64 a0, .int .u64 a1] w fun e w' => e = .returned (.tuple #[.int .u64 r1, .int .i64 r2]) ∧ Below w.heap.size w w' := by
  have hu143 := Tryd.underlying143
  have HG := Aside0.mk hG
  clear hG
  have HB := Aside0.mk (Below.refl w.heap.size w)
  have H : ((posit_split.f k a0 a1).bind fun bt116 => (if 0 ≤ bt116.2.2.2 then ((posit_odd.f (Go.bits .or .u64 (shl .u64 1 bt116.2.2.2) bt116.2.2.1) (wrap64 ((wrap64 ((wrap64 (bt116.1 * 4)) + bt116.2.1)) - bt116.2.2.2))).bind fun bt121 => (some (bt121.1, bt121.2))) else (none))) = some (r1, r2) := h
  clear h
  replace H := Option.bind_eq_some_iff.mp H
  obtain ⟨⟨t116, t117, t118, t119⟩, A30, H⟩ := H
  replace H : (if 0 ≤ t119 then ((posit_odd.f (Go.bits .or .u64 (shl .u64 1 t119) t118) (wrap64 ((wrap64 ((wrap64 (t116 * 4)) + t117)) - t119))).bind fun bt121 => (some (bt121.1, bt121.2))) else (none)) = some (r1, r2) := H
  have A3 := Aside0.mk A30
  clear A30
  by_cases c4 : 0 ≤ t119
  · rw [if_pos c4] at H
    have c4b0 := eq_true c4
    have c4b1 : decide (0 ≤ t119) = true := decide_eq_true c4
    clear c4
    obtain ⟨ji5, hji5⟩ : ∃ j_ : Int, (shl .u64 1 t119) = j_ := ⟨_, rfl⟩
    replace H : ((posit_odd.f (Go.bits .or .u64 (ji5) t118) (wrap64 ((wrap64 ((wrap64 (t116 * 4)) + t117)) - t119))).bind fun bt121 => (some (bt121.1, bt121.2))) = some (r1, r2) := by first | (rw [hji5] at H; exact H) | (simp only [hji5] at H ⊢; exact H)
    (try rw [hji5] at A3)
    have hji5_ : (IntKind.u64.wrap (1 * 2 ^ min t119.toNat 64)) = ji5 := hji5
    have hji5z : t119 ≤ 64 → (IntKind.u64.wrap (1 * 2 ^ t119.toNat)) = ji5 := shl_small hji5
    have hji5u : (IntKind.u64.wrap (2 ^ min t119.toNat 64)) = ji5 := by have h_ := hji5_; rw [Int.one_mul] at h_; exact h_
    have hji5v : t119 ≤ 64 → (IntKind.u64.wrap (2 ^ t119.toNat)) = ji5 := fun hle_ => by have h_ := hji5z hle_; rw [Int.one_mul] at h_; exact h_
    replace H := Option.bind_eq_some_iff.mp H
    obtain ⟨⟨t121, t122⟩, A60, H⟩ := H
    replace H : (some (t121, t122)) = some (r1, r2) := H
    have A6 := Aside0.mk A60
    clear A60
    simp only [Option.some.injEq, Prod.mk.injEq] at H
    obtain ⟨rfl, rfl⟩ := H
    go_enter Tryd.func103, Tryd.ntmps103
    try go_wp2_with (first | ((with_reducible refine gate_callee (f := 109) rfl ?_); refine goesL_ (some 9) rfl rfl Tryd.func109 (by kernel_rfl) rfl #[.int .i64 a0, .int .u64 a1] rfl (by (try simp only [List.map_toArray, List.map_cons, List.map_nil]); first | done | rfl | (simp only [List.length_drop, List.length_take]; rfl)) ?_; (with_reducible refine (posit_split.calls k a0 a1 t116 t117 t118 t119 _ A3.out).mono ?_); rintro e w7 ⟨rfl, hb⟩; refine ⟨_, rfl, ?_⟩; have n0_ := Aside0.mk (below_step (by repeat (first | (with_reducible first | exact HB.out | apply below_alloc | apply pw_below_drewN | apply below_drew1) | exact HB.out)) hb); clear HB; have HB := n0_; clear n0_; (try clear hb); (try clear hb2); (try clear hk); (try clear hi)) | ((with_reducible refine gate_dst (N := 6) rfl ?_); refine box_event ?hg (N := 6) ?hd (cs := #[.int .i64 0, .int .i64 0, .int .u64 0, .int .i64 0]) (t := 143) ?hr ?_; (case hd => rfl); (case hg => rfl); (case hr => first | (go_simp; done) | (go_simp; rfl)); intro gb120 hg w8 hbox hb; have n0_ := Aside0.mk (below_step (by repeat (first | (with_reducible first | exact HB.out | apply below_alloc | apply pw_below_drewN | apply below_drew1) | exact HB.out)) hb); have n1_ := Aside0.mk (hbox); have n2_ := Aside0.mk ((by rw [hg]; exact (below_size (by repeat (first | (with_reducible first | exact HB.out | apply below_alloc | apply pw_below_drewN | apply below_drew1) | exact HB.out))) : w.heap.size ≤ gb120)); have n3_ := Aside0.mk ((by rw [hg]; exact (below_size (by repeat (first | (with_reducible first | exact HB.out | apply below_alloc | apply pw_below_drewN | apply below_drew1) | exact HB.out))) : w.heap.size ≤ gb120)); clear HB; have HB := n0_; have BK120 := n1_; have GW120 := n2_; have GE120 := n3_; clear n0_ n1_ n2_ n3_; clear hb hbox hg; have hcz9_0 : w8.cell? ⟨gb120, 0, none⟩ = some (.int .i64 0) := (blk_cell BK120.out 0).trans rfl; have hcz9_1 : w8.cell? ⟨gb120, 1, none⟩ = some (.int .i64 0) := (blk_cell BK120.out 1).trans rfl; have hcz9_2 : w8.cell? ⟨gb120, 2, none⟩ = some (.int .u64 0) := (blk_cell BK120.out 2).trans rfl; have hcz9_3 : w8.cell? ⟨gb120, 3, none⟩ = some (.int .i64 0) := (blk_cell BK120.out 3).trans rfl; have hfz9_0 := blk_frozen BK120.out 0; have hfz9_1 := blk_frozen BK120.out 1; have hfz9_2 := blk_frozen BK120.out 2; have hfz9_3 := blk_frozen BK120.out 3))
    have n0_ : Aside0 (((((w8.setCell ⟨gb120, 0, none⟩ (.int .i64 t116)).setCell ⟨gb120, 1, none⟩ (.int .i64 t117)).setCell ⟨gb120, 2, none⟩ (.int .u64 t118)).setCell ⟨gb120, 3, none⟩ (.int .i64 t119)).heap[gb120]? = some (.cells #[.int .i64 t116, .int .i64 t117, .int .u64 t118, .int .i64 t119] 143 (0, 0))) := ⟨by (with_reducible repeat (first | refine blk_drewN ?_ _ | refine blk_drew ?_ | refine blk_alloc ?_ _)); refine blk_put (cs := #[.int .i64 t116, .int .i64 t117, .int .u64 t118, .int .i64 0]) ?_ 3 _ rfl; (with_reducible repeat (first | refine blk_drewN ?_ _ | refine blk_drew ?_ | refine blk_alloc ?_ _)); refine blk_put (cs := #[.int .i64 t116, .int .i64 t117, .int .u64 0, .int .i64 0]) ?_ 2 _ rfl; (with_reducible repeat (first | refine blk_drewN ?_ _ | refine blk_drew ?_ | refine blk_alloc ?_ _)); refine blk_put (cs := #[.int .i64 t116, .int .i64 0, .int .u64 0, .int .i64 0]) ?_ 1 _ rfl; (with_reducible repeat (first | refine blk_drewN ?_ _ | refine blk_drew ?_ | refine blk_alloc ?_ _)); refine blk_put (cs := #[.int .i64 0, .int .i64 0, .int .u64 0, .int .i64 0]) ?_ 0 _ rfl; (with_reducible repeat (first | refine blk_drewN ?_ _ | refine blk_drew ?_ | refine blk_alloc ?_ _)); exact BK120.out⟩
    have n1_ : Aside0 (Below w.heap.size w ((((w8.setCell ⟨gb120, 0, none⟩ (.int .i64 t116)).setCell ⟨gb120, 1, none⟩ (.int .i64 t117)).setCell ⟨gb120, 2, none⟩ (.int .u64 t118)).setCell ⟨gb120, 3, none⟩ (.int .i64 t119))) := ⟨by repeat (first | (with_reducible first | exact HB.out | apply below_alloc | apply pw_below_drewN | apply below_drew1 | refine below_set ?_ GE120.out) | exact HB.out)⟩
    (try clear BK120)
    (try clear HB)
    generalize ((((w8.setCell ⟨gb120, 0, none⟩ (.int .i64 t116)).setCell ⟨gb120, 1, none⟩ (.int .i64 t117)).setCell ⟨gb120, 2, none⟩ (.int .u64 t118)).setCell ⟨gb120, 3, none⟩ (.int .i64 t119)) = w10 at n0_ n1_ ⊢
    have BK120 := n0_
    have HB := n1_
    clear n0_ n1_
    have n0_ := Aside0.mk (blk_drew BK120.out)
    have n1_ := Aside0.mk (below_drew1 HB.out)
    clear BK120
    clear HB
    have BK120 := n0_
    have HB := n1_
    clear n0_ n1_
    refine start_ (n := 20) (S := fun w' => w'.cell? ⟨gb120, 0, none⟩ = some (.int .i64 t116) ∧ w'.cell? ⟨gb120, 1, none⟩ = some (.int .i64 t117) ∧ w'.cell? ⟨gb120, 2, none⟩ = some (.int .u64 t118) ∧ w'.cell? ⟨gb120, 3, none⟩ = some (.int .i64 t119)) (ds := []) #[false, false, false, false, false, false, false, false, false, false, false, false, false, false, false, false, false, false, false, false] (by kernel_rfl) rfl rfl ⟨(blk_cell BK120.out 0).trans rfl, (blk_cell BK120.out 1).trans rfl, (blk_cell BK120.out 2).trans rfl, (blk_cell BK120.out 3).trans rfl⟩ (fun hHeld => ?_); refine with_tabW posit_value.tab2 posit_value.bits2 (fun HT_ HW_ => ?_)
    generalize w10.drew = w11 at BK120 HB hHeld ⊢
    refine pure_ (i := 0) (N := some 10) (v := ?_) (a' := ?_) #[true, false, false, false, false, false, false, false, false, false, false, false, false, false, false, false, false, false, false, false] rfl rfl (any_of HT_.out (by kernel_rfl)) (fun _ _ _ h => h) (Or.inl ⟨by rfl, ?_⟩) ?_ ?_
    rotate_left
    · intro w'
      go_simp
      with_reducible rfl
    rotate_left
    · simp only [Act.put, List.setIfInBounds_toArray, List.set_cons_zero, List.set_cons_succ, i64_w, i32_w]
      rfl
    refine pure_ (i := 3) (N := some 13) (v := ?_) (a' := ?_) #[true, false, false, true, false, false, false, false, false, false, false, false, false, false, false, false, false, false, false, false] rfl rfl (any_of HT_.out (by kernel_rfl)) (fun _ _ _ h => h) (Or.inl ⟨by rfl, ?_⟩) ?_ ?_
    rotate_left
    · intro w'
      go_simp
      with_reducible rfl
    rotate_left
    · simp only [Act.put, List.setIfInBounds_toArray, List.set_cons_zero, List.set_cons_succ, i64_w, i32_w]
      rfl
    refine pure_ (i := 6) (N := some 16) (v := ?_) (a' := ?_) #[true, false, false, true, false, false, true, false, false, false, false, false, false, false, false, false, false, false, false, false] rfl rfl (any_of HT_.out (by kernel_rfl)) (fun _ _ _ h => h) (Or.inl ⟨by rfl, ?_⟩) ?_ ?_
    rotate_left
    · intro w'
      go_simp
      with_reducible rfl
    rotate_left
    · simp only [Act.put, List.setIfInBounds_toArray, List.set_cons_zero, List.set_cons_succ, i64_w, i32_w]
      rfl
    refine pure_ (i := 9) (N := some 19) (v := ?_) (a' := ?_) #[true, false, false, true, false, false, true, false, false, true, false, false, false, false, false, false, false, false, false, false] rfl rfl (any_of HT_.out (by kernel_rfl)) (fun _ _ _ h => h) (Or.inl ⟨by rfl, ?_⟩) ?_ ?_
    rotate_left
    · intro w'
      go_simp
      with_reducible rfl
    rotate_left
    · simp only [Act.put, List.setIfInBounds_toArray, List.set_cons_zero, List.set_cons_succ, i64_w, i32_w]
      rfl
    refine pure_ (i := 12) (N := some 22) (v := ?_) (a' := ?_) #[true, false, false, true, false, false, true, false, false, true, false, false, true, false, false, false, false, false, false, false] rfl rfl (any_of HT_.out (by kernel_rfl)) (fun _ _ _ h => h) (Or.inl ⟨by rfl, ?_⟩) ?_ ?_
    rotate_left
    · intro w'
      go_simp
      with_reducible rfl
    rotate_left
    · simp only [Act.put, List.setIfInBounds_toArray, List.set_cons_zero, List.set_cons_succ, i64_w, i32_w]
      rfl
    refine take_ (i := 1) (N := some 11) (v := ?_) (a' := ?_) #[true, true, false, true, false, false, true, false, false, true, false, false, true, false, false, false, false, false, false, false] rfl rfl (take_ofW HT_.out HW_.out (by kernel_rfl)) (fun _ _ _ h => h) (Or.inl ⟨by rfl, ?_⟩) hHeld ?_ ?_
    rotate_left
    · rintro w' ⟨s0, s1, s2, s3⟩
      go_simp
      with_reducible rfl
    rotate_left
    · simp only [Act.put, List.setIfInBounds_toArray, List.set_cons_zero, List.set_cons_succ, i64_w, i32_w]
      rfl
    refine pure_ (i := 2) (N := some 12) (v := ?_) (a' := ?_) #[true, true, true, true, false, false, true, false, false, true, false, false, true, false, false, false, false, false, false, false] rfl rfl (any_of HT_.out (by kernel_rfl)) (fun _ _ _ h => h) (Or.inl ⟨by rfl, ?_⟩) ?_ ?_
    rotate_left
    · intro w'
      go_simp
      with_reducible rfl
    rotate_left
    · simp only [Act.put, List.setIfInBounds_toArray, List.set_cons_zero, List.set_cons_succ, i64_w, i32_w]
      rfl
    refine take_ (i := 4) (N := some 14) (v := ?_) (a' := ?_) #[true, true, true, true, true, false, true, false, false, true, false, false, true, false, false, false, false, false, false, false] rfl rfl (take_ofW HT_.out HW_.out (by kernel_rfl)) (fun _ _ _ h => h) (Or.inl ⟨by rfl, ?_⟩) hHeld ?_ ?_
    rotate_left
    · rintro w' ⟨s0, s1, s2, s3⟩
      go_simp
      with_reducible rfl
    rotate_left
    · simp only [Act.put, List.setIfInBounds_toArray, List.set_cons_zero, List.set_cons_succ, i64_w, i32_w]
      rfl
    refine pure_ (i := 5) (N := some 15) (v := ?_) (a' := ?_) #[true, true, true, true, true, true, true, false, false, true, false, false, true, false, false, false, false, false, false, false] rfl rfl (any_of HT_.out (by kernel_rfl)) (fun _ _ _ h => h) (Or.inl ⟨by rfl, ?_⟩) ?_ ?_
    rotate_left
    · intro w'
      go_simp
      with_reducible rfl
    rotate_left
    · simp only [Act.put, List.setIfInBounds_toArray, List.set_cons_zero, List.set_cons_succ, i64_w, i32_w]
      rfl
    refine take_ (i := 7) (N := some 17) (v := ?_) (a' := ?_) #[true, true, true, true, true, true, true, true, false, true, false, false, true, false, false, false, false, false, false, false] rfl rfl (take_ofW HT_.out HW_.out (by kernel_rfl)) (fun _ _ _ h => h) (Or.inl ⟨by rfl, ?_⟩) hHeld ?_ ?_
    rotate_left
    · rintro w' ⟨s0, s1, s2, s3⟩
      go_simp
      with_reducible rfl
    rotate_left
    · simp only [Act.put, List.setIfInBounds_toArray, List.set_cons_zero, List.set_cons_succ, i64_w, i32_w]
      rfl
    refine pure_ (i := 8) (N := some 18) (v := ?_) (a' := ?_) #[true, true, true, true, true, true, true, true, true, true, false, false, true, false, false, false, false, false, false, false] rfl rfl (any_of HT_.out (by kernel_rfl)) (fun _ _ _ h => h) (Or.inl ⟨by rfl, ?_⟩) ?_ ?_
    rotate_left
    · intro w'
      go_simp
      with_reducible rfl
    rotate_left
    · simp only [Act.put, List.setIfInBounds_toArray, List.set_cons_zero, List.set_cons_succ, i64_w, i32_w]
      rfl
    refine take_ (i := 10) (N := some 20) (v := ?_) (a' := ?_) #[true, true, true, true, true, true, true, true, true, true, true, false, true, false, false, false, false, false, false, false] rfl rfl (take_ofW HT_.out HW_.out (by kernel_rfl)) (fun _ _ _ h => h) (Or.inl ⟨by rfl, ?_⟩) hHeld ?_ ?_
    rotate_left
    · rintro w' ⟨s0, s1, s2, s3⟩
      go_simp
      with_reducible rfl
    rotate_left
    · simp only [Act.put, List.setIfInBounds_toArray, List.set_cons_zero, List.set_cons_succ, i64_w, i32_w]
      rfl
    refine pure_ (i := 11) (N := some 21) (v := ?_) (a' := ?_) #[true, true, true, true, true, true, true, true, true, true, true, true, true, false, false, false, false, false, false, false] rfl rfl (any_of HT_.out (by kernel_rfl)) (fun _ _ _ h => h) (Or.inl ⟨by rfl, ?_⟩) ?_ ?_
    rotate_left
    · intro w'
      go_simp
      with_reducible rfl
    rotate_left
    · simp only [Act.put, List.setIfInBounds_toArray, List.set_cons_zero, List.set_cons_succ, i64_w, i32_w]
      rfl
    refine take_ (i := 13) (N := some 23) (v := ?_) (a' := ?_) #[true, true, true, true, true, true, true, true, true, true, true, true, true, true, false, false, false, false, false, false] rfl rfl (take_ofW HT_.out HW_.out (by kernel_rfl)) (fun _ _ _ h => h) (Or.inl ⟨by rfl, ?_⟩) hHeld ?_ ?_
    rotate_left
    · rintro w' ⟨s0, s1, s2, s3⟩
      go_simp
      with_reducible rfl
    rotate_left
    · simp only [Act.put, List.setIfInBounds_toArray, List.set_cons_zero, List.set_cons_succ, i64_w, i32_w]
      rfl
    refine pure_ (i := 14) (N := some 24) (v := ?_) (a' := ?_) #[true, true, true, true, true, true, true, true, true, true, true, true, true, true, true, false, false, false, false, false] rfl rfl (any_of HT_.out (by kernel_rfl)) (fun _ _ _ h => h) (Or.inl ⟨by rfl, ?_⟩) ?_ ?_
    rotate_left
    · intro w'
      go_simp
      with_reducible rfl
    rotate_left
    · simp only [Act.put, List.setIfInBounds_toArray, List.set_cons_zero, List.set_cons_succ, i64_w, i32_w]
      rfl
    refine one_ (i := 15) (N := some 25) #[true, true, true, true, true, true, true, true, true, true, true, true, true, true, true, true, false, false, false, false] rfl rfl (one_of HT_.out (by kernel_rfl)) (by decide) (fun K hK => ?_)
    refine goes_ Tryd.func110 (by kernel_rfl) rfl #[.int .u64 (Go.bits .or .u64 (ji5) t118), .int .i64 (wrap64 ((wrap64 ((wrap64 (t116 * 4)) + t117)) - t119))] (by rfl) rfl rfl (by (try simp only [List.map_toArray, List.map_cons, List.map_nil]); first | done | (simp only [hji5]; rfl) | rfl | (simp only [List.length_drop, List.length_take]; rfl)) ?_
    with_reducible refine (posit_odd.calls (Go.bits .or .u64 (ji5) t118) (wrap64 ((wrap64 ((wrap64 (t116 * 4)) + t117)) - t119)) t121 t122 _ ?side1 A6.out).mono ?_
    (case side1 => exact Glob.below HG.out (by repeat (first | (with_reducible first | exact HB.out | apply below_alloc | apply pw_below_drewN | apply below_drew1 | refine below_set ?_ GE120.out) | exact HB.out)))
    rintro e w12 ⟨rfl, hb⟩
    refine ⟨_, rfl, ?_⟩
    have n0_ := Aside0.mk (blk_below (g := gb120) (o := .cells #[.int .i64 t116, .int .i64 t117, .int .u64 t118, .int .i64 t119] 143 (0, 0)) (by (with_reducible repeat (first | refine blk_drewN ?_ _ | refine blk_drew ?_ | refine blk_alloc ?_ _)); exact BK120.out) hb)
    have n1_ := Aside0.mk (below_step (by repeat (first | (with_reducible first | exact HB.out | apply below_alloc | apply pw_below_drewN | apply below_drew1 | refine below_set ?_ GE120.out) | exact HB.out)) hb)
    clear BK120
    clear HB
    have BK120 := n0_
    have HB := n1_
    clear n0_ n1_
    (try clear hb)
    (try clear hb2)
    (try clear hk)
    (try clear hi)
    refine hK.out _ _ ⟨(blk_cell BK120.out 0).trans rfl, (blk_cell BK120.out 1).trans rfl, (blk_cell BK120.out 2).trans rfl, (blk_cell BK120.out 3).trans rfl⟩ (fun hHeld => ?_)
    clear hK K
    refine norm_ (a' := ?_) ?_ ?_
    rotate_left
    · show Act.put _ (some 25) _ = _
      simp only [Act.put, List.setIfInBounds_toArray, List.set_cons_zero, List.set_cons_succ, i64_w, i32_w]
      rfl
    refine pure_ (i := 16) (N := some 26) (v := ?_) (a' := ?_) #[true, true, true, true, true, true, true, true, true, true, true, true, true, true, true, true, true, false, false, false] rfl rfl (any_of HT_.out (by kernel_rfl)) (fun _ _ _ h => h) (Or.inl ⟨by rfl, ?_⟩) ?_ ?_
    rotate_left
    · intro w'
      go_simp
      with_reducible rfl
    rotate_left
    · simp only [Act.put, List.setIfInBounds_toArray, List.set_cons_zero, List.set_cons_succ, i64_w, i32_w]
      rfl
    refine pure_ (i := 17) (N := some 27) (v := ?_) (a' := ?_) #[true, true, true, true, true, true, true, true, true, true, true, true, true, true, true, true, true, true, false, false] rfl rfl (any_of HT_.out (by kernel_rfl)) (fun _ _ _ h => h) (Or.inl ⟨by rfl, ?_⟩) ?_ ?_
    rotate_left
    · intro w'
      go_simp
      with_reducible rfl
    rotate_left
    · simp only [Act.put, List.setIfInBounds_toArray, List.set_cons_zero, List.set_cons_succ, i64_w, i32_w]
      rfl
    refine pure_ (i := 18) (N := some 4) (v := ?_) (a' := ?_) #[true, true, true, true, true, true, true, true, true, true, true, true, true, true, true, true, true, true, true, false] rfl rfl (any_of HT_.out (by kernel_rfl)) (fun _ _ _ h => h) (Or.inl ⟨by rfl, ?_⟩) ?_ ?_
    rotate_left
    · intro w'
      go_simp
      with_reducible rfl
    rotate_left
    · simp only [Act.put, List.setIfInBounds_toArray, List.set_cons_zero, List.set_cons_succ, i64_w, i32_w]
      rfl
    refine pure_ (i := 19) (N := some 5) (v := ?_) (a' := ?_) #[true, true, true, true, true, true, true, true, true, true, true, true, true, true, true, true, true, true, true, true] rfl rfl (any_of HT_.out (by kernel_rfl)) (fun _ _ _ h => h) (Or.inl ⟨by rfl, ?_⟩) ?_ ?_
    rotate_left
    · intro w'
      go_simp
      with_reducible rfl
    rotate_left
    · simp only [Act.put, List.setIfInBounds_toArray, List.set_cons_zero, List.set_cons_succ, i64_w, i32_w]
      rfl
    refine done_ (done_of HT_.out (by kernel_rfl)) ?_
    try go_wp2
    go_ret2
    exact ⟨by first | rfl | (simp [errW_none, errW_some] <;> rfl) | (simp only [← hji5]; first | rfl | (simp [errW_none, errW_some] <;> rfl)) | (simp [*, errW_none, errW_some] <;> rfl), by repeat (first | (with_reducible first | exact HB.out | apply below_alloc | apply pw_below_drewN | apply below_drew1 | refine below_set ?_ GE120.out) | exact HB.out)⟩
  · rw [if_neg c4] at H
    exact absurd H (by simp)

def value_odd.f (a0 : Int) (a1 : Int) : Option (Int × Int) := if a0 = 0 then (some (0, 0)) else ((bits_TrailingZeros64.f a0).bind fun t123 => (if 0 ≤ t123 then (some (shr .u64 a0 t123, wrap64 (a1 + t123))) else (none)))
set_option maxHeartbeats 8000000 in
set_option maxRecDepth 100000 in
theorem value_odd.calls (a0 : Int) (a1 : Int) (r1 : Int) (r2 : Int) (w : World) (hG : Glob w) (h : value_odd.f a0 a1 = some (r1, r2)) :
    Calls Tryd.prog 92 #[.int .u64 a0, .int .i64 a1] w fun e w' => e = .returned (.tuple #[.int .u64 r1, .int .i64 r2]) ∧ Below w.heap.size w w' := by
  have HG := Aside0.mk hG
  clear hG
  have HB := Aside0.mk (Below.refl w.heap.size w)
  have H : (if a0 = 0 then (some (0, 0)) else ((bits_TrailingZeros64.f a0).bind fun t123 => (if 0 ≤ t123 then (some (shr .u64 a0 t123, wrap64 (a1 + t123))) else (none)))) = some (r1, r2) := h
  clear h
  by_cases c3 : a0 = 0
  · rw [if_pos c3] at H
    have c3b0 : (a0 == 0) = true := beq_iff_eq.mpr c3
    have c3b1 : (a0 != 0) = false := bne_eq_false_iff_eq.mpr c3
    clear c3
    simp only [Option.some.injEq, Prod.mk.injEq] at H
    obtain ⟨rfl, rfl⟩ := H
    go_enter Tryd.func92, Tryd.ntmps92
    go_wp2
    go_ret2
    exact ⟨by first | rfl | (simp [errW_none, errW_some] <;> rfl) | (simp [*, errW_none, errW_some] <;> rfl), by repeat (first | (with_reducible first | exact HB.out | apply below_alloc | apply pw_below_drewN | apply below_drew1) | exact HB.out)⟩
  · rw [if_neg c3] at H
    have c3b0 : (a0 == 0) = false := beq_eq_false_iff_ne.mpr c3
    have c3b1 : (a0 != 0) = true := bne_iff_ne.mpr c3
    replace H := Option.bind_eq_some_iff.mp H
    obtain ⟨t123, A40, H⟩ := H
    replace H : (if 0 ≤ t123 then (some (shr .u64 a0 t123, wrap64 (a1 + t123))) else (none)) = some (r1, r2) := H
    have A4 := Aside0.mk A40
    clear A40
    by_cases c5 : 0 ≤ t123
    · rw [if_pos c5] at H
      have c5b0 := eq_true c5
      have c5b1 : decide (0 ≤ t123) = true := decide_eq_true c5
      clear c5
      obtain ⟨ji6, hji6⟩ : ∃ j_ : Int, (shr .u64 a0 t123) = j_ := ⟨_, rfl⟩
      replace H : (some (ji6, wrap64 (a1 + t123))) = some (r1, r2) := by first | (rw [hji6] at H; exact H) | (simp only [hji6] at H ⊢; exact H)
      (try rw [hji6] at A4)
      have hji6_ : (a0 / 2 ^ min t123.toNat 64) = ji6 := hji6
      have hji6z : t123 ≤ 64 → (a0 / 2 ^ t123.toNat) = ji6 := shr_small hji6
      simp only [Option.some.injEq, Prod.mk.injEq] at H
      obtain ⟨rfl, rfl⟩ := H
      go_enter Tryd.func92, Tryd.ntmps92
      go_wp2_with (first | ((with_reducible refine gate_callee (f := 106) rfl ?_); refine goesL_ (some 10) rfl rfl Tryd.func106 (by kernel_rfl) rfl #[.int .u64 a0] rfl (by (try simp only [List.map_toArray, List.map_cons, List.map_nil]); first | done | rfl | (simp only [List.length_drop, List.length_take]; rfl)) ?_; (with_reducible refine (bits_TrailingZeros64.calls a0 t123 _ ?side1 A4.out).mono ?_); (case side1 => exact Glob.below HG.out (by repeat (first | (with_reducible first | exact HB.out | apply below_alloc | apply pw_below_drewN | apply below_drew1) | exact HB.out))); rintro e w7 ⟨rfl, hb⟩; refine ⟨_, rfl, ?_⟩; have n0_ := Aside0.mk (below_step (by repeat (first | (with_reducible first | exact HB.out | apply below_alloc | apply pw_below_drewN | apply below_drew1) | exact HB.out)) hb); clear HB; have HB := n0_; clear n0_; (try clear hb); (try clear hb2); (try clear hk); (try clear hi)))
      go_ret2
      exact ⟨by first | rfl | (simp [errW_none, errW_some] <;> rfl) | (simp only [← hji6]; first | rfl | (simp [errW_none, errW_some] <;> rfl)) | (simp [*, errW_none, errW_some] <;> rfl), by repeat (first | (with_reducible first | exact HB.out | apply below_alloc | apply pw_below_drewN | apply below_drew1) | exact HB.out)⟩
    · rw [if_neg c5] at H
      exact absurd H (by simp)

def forms_Form_Mask.f (a0_0 : Int) (a0_1 : Int) (a0_2 : Int) (a0_3 : Int) (a0_4 : Int) (a0_5 : Int) (a0_6 : Int) : Option (Int) := if 0 ≤ a0_1 then (some (IntKind.u64.wrap ((shl .u64 1 a0_1) - 1))) else (none)
set_option maxHeartbeats 8000000 in
set_option maxRecDepth 100000 in
theorem forms_Form_Mask.calls (a0_0 : Int) (a0_1 : Int) (a0_2 : Int) (a0_3 : Int) (a0_4 : Int) (a0_5 : Int) (a0_6 : Int) (r : Int) (w : World) (h : forms_Form_Mask.f a0_0 a0_1 a0_2 a0_3 a0_4 a0_5 a0_6 = some r) :
    Calls Tryd.prog 25 #[.agg #[.int .i64 a0_0, .int .i64 a0_1, .int .i64 a0_2, .int .i64 a0_3, .int .u64 a0_4, .int .u64 a0_5, .int .u64 a0_6]] w fun e w' => e = .returned (.int .u64 r) ∧ Below w.heap.size w w' := by
  have hu51 := Tryd.underlying51
  have HB := Aside0.mk (Below.refl w.heap.size w)
  have H : (if 0 ≤ a0_1 then (some (IntKind.u64.wrap ((shl .u64 1 a0_1) - 1))) else (none)) = some r := h
  clear h
  by_cases c2 : 0 ≤ a0_1
  · rw [if_pos c2] at H
    have c2b0 := eq_true c2
    have c2b1 : decide (0 ≤ a0_1) = true := decide_eq_true c2
    clear c2
    obtain ⟨ji3, hji3⟩ : ∃ j_ : Int, (shl .u64 1 a0_1) = j_ := ⟨_, rfl⟩
    replace H : (some (IntKind.u64.wrap ((ji3) - 1))) = some r := by first | (rw [hji3] at H; exact H) | (simp only [hji3] at H ⊢; exact H)
    have hji3_ : (IntKind.u64.wrap (1 * 2 ^ min a0_1.toNat 64)) = ji3 := hji3
    have hji3z : a0_1 ≤ 64 → (IntKind.u64.wrap (1 * 2 ^ a0_1.toNat)) = ji3 := shl_small hji3
    have hji3u : (IntKind.u64.wrap (2 ^ min a0_1.toNat 64)) = ji3 := by have h_ := hji3_; rw [Int.one_mul] at h_; exact h_
    have hji3v : a0_1 ≤ 64 → (IntKind.u64.wrap (2 ^ a0_1.toNat)) = ji3 := fun hle_ => by have h_ := hji3z hle_; rw [Int.one_mul] at h_; exact h_
    obtain rfl := Option.some.inj H
    go_enter Tryd.func25, Tryd.ntmps25
    go_wp2_with (first | ((with_reducible refine gate_dst (N := 1) rfl ?_); refine box_event ?hg (N := 1) ?hd (cs := #[.int .i64 a0_0, .int .i64 a0_1, .int .i64 a0_2, .int .i64 a0_3, .int .u64 a0_4, .int .u64 a0_5, .int .u64 a0_6]) (t := 51) ?hr ?_; (case hd => rfl); (case hg => rfl); (case hr => first | (go_simp; done) | (go_simp; rfl)); intro gb124 hg w4 hbox hb; have n0_ := Aside0.mk (below_step (by repeat (first | (with_reducible first | exact HB.out | apply below_alloc | apply pw_below_drewN | apply below_drew1) | exact HB.out)) hb); have n1_ := Aside0.mk (hbox); have n2_ := Aside0.mk ((by rw [hg]; exact (below_size (by repeat (first | (with_reducible first | exact HB.out | apply below_alloc | apply pw_below_drewN | apply below_drew1) | exact HB.out))) : w.heap.size ≤ gb124)); have n3_ := Aside0.mk ((by rw [hg]; exact (below_size (by repeat (first | (with_reducible first | exact HB.out | apply below_alloc | apply pw_below_drewN | apply below_drew1) | exact HB.out))) : w.heap.size ≤ gb124)); clear HB; have HB := n0_; have BK124 := n1_; have GW124 := n2_; have GE124 := n3_; clear n0_ n1_ n2_ n3_; clear hb hbox hg; have hcz5_0 : w4.cell? ⟨gb124, 0, none⟩ = some (.int .i64 a0_0) := (blk_cell BK124.out 0).trans rfl; have hcz5_1 : w4.cell? ⟨gb124, 1, none⟩ = some (.int .i64 a0_1) := (blk_cell BK124.out 1).trans rfl; have hcz5_2 : w4.cell? ⟨gb124, 2, none⟩ = some (.int .i64 a0_2) := (blk_cell BK124.out 2).trans rfl; have hcz5_3 : w4.cell? ⟨gb124, 3, none⟩ = some (.int .i64 a0_3) := (blk_cell BK124.out 3).trans rfl; have hcz5_4 : w4.cell? ⟨gb124, 4, none⟩ = some (.int .u64 a0_4) := (blk_cell BK124.out 4).trans rfl; have hcz5_5 : w4.cell? ⟨gb124, 5, none⟩ = some (.int .u64 a0_5) := (blk_cell BK124.out 5).trans rfl; have hcz5_6 : w4.cell? ⟨gb124, 6, none⟩ = some (.int .u64 a0_6) := (blk_cell BK124.out 6).trans rfl; have hfz5_0 := blk_frozen BK124.out 0; have hfz5_1 := blk_frozen BK124.out 1; have hfz5_2 := blk_frozen BK124.out 2; have hfz5_3 := blk_frozen BK124.out 3; have hfz5_4 := blk_frozen BK124.out 4; have hfz5_5 := blk_frozen BK124.out 5; have hfz5_6 := blk_frozen BK124.out 6))
    go_ret
    exact ⟨by first | rfl | (simp [errW_none, errW_some] <;> rfl) | (simp only [← hji3]; first | rfl | (simp [errW_none, errW_some] <;> rfl)) | (simp [*, errW_none, errW_some] <;> rfl), by repeat (first | (with_reducible first | exact HB.out | apply below_alloc | apply pw_below_drewN | apply below_drew1 | refine below_set ?_ GE124.out) | exact HB.out)⟩
  · rw [if_neg c2] at H
    exact absurd H (by simp)

def forms_Form_Sign.f (a0_0 : Int) (a0_1 : Int) (a0_2 : Int) (a0_3 : Int) (a0_4 : Int) (a0_5 : Int) (a0_6 : Int) : Option (Int) := if a0_0 = 4 then (some 0) else ((forms_Form_Mask.f a0_0 a0_1 a0_2 a0_3 a0_4 a0_5 a0_6).bind fun t126 => ((forms_Form_Mask.f a0_0 a0_1 a0_2 a0_3 a0_4 a0_5 a0_6).bind fun t127 => (some (Go.bits .andNot .u64 t126 (t127 / 2)))))
set_option maxHeartbeats 8000000 in
set_option maxRecDepth 100000 in
theorem forms_Form_Sign.calls (a0_0 : Int) (a0_1 : Int) (a0_2 : Int) (a0_3 : Int) (a0_4 : Int) (a0_5 : Int) (a0_6 : Int) (r : Int) (w : World) (h : forms_Form_Sign.f a0_0 a0_1 a0_2 a0_3 a0_4 a0_5 a0_6 = some r) :
    Calls Tryd.prog 24 #[.agg #[.int .i64 a0_0, .int .i64 a0_1, .int .i64 a0_2, .int .i64 a0_3, .int .u64 a0_4, .int .u64 a0_5, .int .u64 a0_6]] w fun e w' => e = .returned (.int .u64 r) ∧ Below w.heap.size w w' := by
  have hu51 := Tryd.underlying51
  have HB := Aside0.mk (Below.refl w.heap.size w)
  have H : (if a0_0 = 4 then (some 0) else ((forms_Form_Mask.f a0_0 a0_1 a0_2 a0_3 a0_4 a0_5 a0_6).bind fun t126 => ((forms_Form_Mask.f a0_0 a0_1 a0_2 a0_3 a0_4 a0_5 a0_6).bind fun t127 => (some (Go.bits .andNot .u64 t126 (t127 / 2)))))) = some r := h
  clear h
  by_cases c2 : a0_0 = 4
  · rw [if_pos c2] at H
    have c2b0 : (a0_0 == 4) = true := beq_iff_eq.mpr c2
    have c2b1 : (a0_0 != 4) = false := bne_eq_false_iff_eq.mpr c2
    clear c2
    obtain rfl := Option.some.inj H
    go_enter Tryd.func24, Tryd.ntmps24
    go_wp2_with (first | ((with_reducible refine gate_dst (N := 1) rfl ?_); refine box_event ?hg (N := 1) ?hd (cs := #[.int .i64 a0_0, .int .i64 a0_1, .int .i64 a0_2, .int .i64 a0_3, .int .u64 a0_4, .int .u64 a0_5, .int .u64 a0_6]) (t := 51) ?hr ?_; (case hd => rfl); (case hg => rfl); (case hr => first | (go_simp; done) | (go_simp; rfl)); intro gb125 hg w3 hbox hb; have n0_ := Aside0.mk (below_step (by repeat (first | (with_reducible first | exact HB.out | apply below_alloc | apply pw_below_drewN | apply below_drew1) | exact HB.out)) hb); have n1_ := Aside0.mk (hbox); have n2_ := Aside0.mk ((by rw [hg]; exact (below_size (by repeat (first | (with_reducible first | exact HB.out | apply below_alloc | apply pw_below_drewN | apply below_drew1) | exact HB.out))) : w.heap.size ≤ gb125)); have n3_ := Aside0.mk ((by rw [hg]; exact (below_size (by repeat (first | (with_reducible first | exact HB.out | apply below_alloc | apply pw_below_drewN | apply below_drew1) | exact HB.out))) : w.heap.size ≤ gb125)); clear HB; have HB := n0_; have BK125 := n1_; have GW125 := n2_; have GE125 := n3_; clear n0_ n1_ n2_ n3_; clear hb hbox hg; have hcz4_0 : w3.cell? ⟨gb125, 0, none⟩ = some (.int .i64 a0_0) := (blk_cell BK125.out 0).trans rfl; have hcz4_1 : w3.cell? ⟨gb125, 1, none⟩ = some (.int .i64 a0_1) := (blk_cell BK125.out 1).trans rfl; have hcz4_2 : w3.cell? ⟨gb125, 2, none⟩ = some (.int .i64 a0_2) := (blk_cell BK125.out 2).trans rfl; have hcz4_3 : w3.cell? ⟨gb125, 3, none⟩ = some (.int .i64 a0_3) := (blk_cell BK125.out 3).trans rfl; have hcz4_4 : w3.cell? ⟨gb125, 4, none⟩ = some (.int .u64 a0_4) := (blk_cell BK125.out 4).trans rfl; have hcz4_5 : w3.cell? ⟨gb125, 5, none⟩ = some (.int .u64 a0_5) := (blk_cell BK125.out 5).trans rfl; have hcz4_6 : w3.cell? ⟨gb125, 6, none⟩ = some (.int .u64 a0_6) := (blk_cell BK125.out 6).trans rfl; have hfz4_0 := blk_frozen BK125.out 0; have hfz4_1 := blk_frozen BK125.out 1; have hfz4_2 := blk_frozen BK125.out 2; have hfz4_3 := blk_frozen BK125.out 3; have hfz4_4 := blk_frozen BK125.out 4; have hfz4_5 := blk_frozen BK125.out 5; have hfz4_6 := blk_frozen BK125.out 6))
    go_ret
    exact ⟨by first | rfl | (simp [errW_none, errW_some] <;> rfl) | (simp [*, errW_none, errW_some] <;> rfl), by repeat (first | (with_reducible first | exact HB.out | apply below_alloc | apply pw_below_drewN | apply below_drew1 | refine below_set ?_ GE125.out) | exact HB.out)⟩
  · rw [if_neg c2] at H
    have c2b0 : (a0_0 == 4) = false := beq_eq_false_iff_ne.mpr c2
    have c2b1 : (a0_0 != 4) = true := bne_iff_ne.mpr c2
    replace H := Option.bind_eq_some_iff.mp H
    obtain ⟨t126, A50, H⟩ := H
    replace H : ((forms_Form_Mask.f a0_0 a0_1 a0_2 a0_3 a0_4 a0_5 a0_6).bind fun t127 => (some (Go.bits .andNot .u64 t126 (t127 / 2)))) = some r := H
    have A5 := Aside0.mk A50
    clear A50
    replace H := Option.bind_eq_some_iff.mp H
    obtain ⟨t127, A60, H⟩ := H
    replace H : (some (Go.bits .andNot .u64 t126 (t127 / 2))) = some r := H
    have A6 := Aside0.mk A60
    clear A60
    obtain rfl := Option.some.inj H
    go_enter Tryd.func24, Tryd.ntmps24
    try go_wp2_with (first | ((with_reducible refine gate_dst (N := 1) rfl ?_); refine box_event ?hg (N := 1) ?hd (cs := #[.int .i64 a0_0, .int .i64 a0_1, .int .i64 a0_2, .int .i64 a0_3, .int .u64 a0_4, .int .u64 a0_5, .int .u64 a0_6]) (t := 51) ?hr ?_; (case hd => rfl); (case hg => rfl); (case hr => first | (go_simp; done) | (go_simp; rfl)); intro gb125 hg w7 hbox hb; have n0_ := Aside0.mk (below_step (by repeat (first | (with_reducible first | exact HB.out | apply below_alloc | apply pw_below_drewN | apply below_drew1) | exact HB.out)) hb); have n1_ := Aside0.mk (hbox); have n2_ := Aside0.mk ((by rw [hg]; exact (below_size (by repeat (first | (with_reducible first | exact HB.out | apply below_alloc | apply pw_below_drewN | apply below_drew1) | exact HB.out))) : w.heap.size ≤ gb125)); have n3_ := Aside0.mk ((by rw [hg]; exact (below_size (by repeat (first | (with_reducible first | exact HB.out | apply below_alloc | apply pw_below_drewN | apply below_drew1) | exact HB.out))) : w.heap.size ≤ gb125)); clear HB; have HB := n0_; have BK125 := n1_; have GW125 := n2_; have GE125 := n3_; clear n0_ n1_ n2_ n3_; clear hb hbox hg; have hcz8_0 : w7.cell? ⟨gb125, 0, none⟩ = some (.int .i64 a0_0) := (blk_cell BK125.out 0).trans rfl; have hcz8_1 : w7.cell? ⟨gb125, 1, none⟩ = some (.int .i64 a0_1) := (blk_cell BK125.out 1).trans rfl; have hcz8_2 : w7.cell? ⟨gb125, 2, none⟩ = some (.int .i64 a0_2) := (blk_cell BK125.out 2).trans rfl; have hcz8_3 : w7.cell? ⟨gb125, 3, none⟩ = some (.int .i64 a0_3) := (blk_cell BK125.out 3).trans rfl; have hcz8_4 : w7.cell? ⟨gb125, 4, none⟩ = some (.int .u64 a0_4) := (blk_cell BK125.out 4).trans rfl; have hcz8_5 : w7.cell? ⟨gb125, 5, none⟩ = some (.int .u64 a0_5) := (blk_cell BK125.out 5).trans rfl; have hcz8_6 : w7.cell? ⟨gb125, 6, none⟩ = some (.int .u64 a0_6) := (blk_cell BK125.out 6).trans rfl; have hfz8_0 := blk_frozen BK125.out 0; have hfz8_1 := blk_frozen BK125.out 1; have hfz8_2 := blk_frozen BK125.out 2; have hfz8_3 := blk_frozen BK125.out 3; have hfz8_4 := blk_frozen BK125.out 4; have hfz8_5 := blk_frozen BK125.out 5; have hfz8_6 := blk_frozen BK125.out 6))
    have n0_ := Aside0.mk (blk_drew BK125.out)
    have n1_ := Aside0.mk (below_drew1 HB.out)
    clear BK125
    clear HB
    have BK125 := n0_
    have HB := n1_
    clear n0_ n1_
    refine start_ (n := 7) (S := fun w' => w'.cell? ⟨gb125, 0, none⟩ = some (.int .i64 a0_0) ∧ w'.cell? ⟨gb125, 1, none⟩ = some (.int .i64 a0_1) ∧ w'.cell? ⟨gb125, 2, none⟩ = some (.int .i64 a0_2) ∧ w'.cell? ⟨gb125, 3, none⟩ = some (.int .i64 a0_3) ∧ w'.cell? ⟨gb125, 4, none⟩ = some (.int .u64 a0_4) ∧ w'.cell? ⟨gb125, 5, none⟩ = some (.int .u64 a0_5) ∧ w'.cell? ⟨gb125, 6, none⟩ = some (.int .u64 a0_6)) (ds := []) #[false, false, false, false, false, false, false] (by kernel_rfl) rfl rfl ⟨(blk_cell BK125.out 0).trans rfl, (blk_cell BK125.out 1).trans rfl, (blk_cell BK125.out 2).trans rfl, (blk_cell BK125.out 3).trans rfl, (blk_cell BK125.out 4).trans rfl, (blk_cell BK125.out 5).trans rfl, (blk_cell BK125.out 6).trans rfl⟩ (fun hHeld => ?_)
    generalize w7.drew = w9 at BK125 HB hHeld ⊢
    refine take_ (i := 0) (N := some 6) (v := ?_) (a' := ?_) #[true, false, false, false, false, false, false] rfl rfl (by kernel_rfl) (fun _ _ _ h => h) (Or.inl ⟨by rfl, ?_⟩) hHeld ?_ ?_
    rotate_left
    · rintro w' ⟨s0, s1, s2, s3, s4, s5, s6⟩
      go_simp
      with_reducible rfl
    rotate_left
    · simp only [Act.put, List.setIfInBounds_toArray, List.set_cons_zero, List.set_cons_succ, i64_w, i32_w]
      rfl
    refine take_ (i := 2) (N := some 8) (v := ?_) (a' := ?_) #[true, false, true, false, false, false, false] rfl rfl (by kernel_rfl) (fun _ _ _ h => h) (Or.inl ⟨by rfl, ?_⟩) hHeld ?_ ?_
    rotate_left
    · rintro w' ⟨s0, s1, s2, s3, s4, s5, s6⟩
      go_simp
      with_reducible rfl
    rotate_left
    · simp only [Act.put, List.setIfInBounds_toArray, List.set_cons_zero, List.set_cons_succ, i64_w, i32_w]
      rfl
    refine one_ (i := 1) (N := some 7) #[true, true, true, false, false, false, false] rfl rfl (by kernel_rfl) (by decide) (fun K hK => ?_)
    refine goes_ Tryd.func25 (by kernel_rfl) rfl #[.agg #[.int .i64 a0_0, .int .i64 a0_1, .int .i64 a0_2, .int .i64 a0_3, .int .u64 a0_4, .int .u64 a0_5, .int .u64 a0_6]] (by rfl) rfl rfl (by (try simp only [List.map_toArray, List.map_cons, List.map_nil]); first | done | rfl | (simp only [List.length_drop, List.length_take]; rfl)) ?_
    with_reducible refine (forms_Form_Mask.calls a0_0 a0_1 a0_2 a0_3 a0_4 a0_5 a0_6 t126 _ A5.out).mono ?_
    rintro e w10 ⟨rfl, hb⟩
    refine ⟨_, rfl, ?_⟩
    have n0_ := Aside0.mk (blk_below (g := gb125) (o := .cells #[.int .i64 a0_0, .int .i64 a0_1, .int .i64 a0_2, .int .i64 a0_3, .int .u64 a0_4, .int .u64 a0_5, .int .u64 a0_6] 51 (0, 0)) (by (with_reducible repeat (first | refine blk_drewN ?_ _ | refine blk_drew ?_ | refine blk_alloc ?_ _)); exact BK125.out) hb)
    have n1_ := Aside0.mk (below_step (by repeat (first | (with_reducible first | exact HB.out | apply below_alloc | apply pw_below_drewN | apply below_drew1 | refine below_set ?_ GE125.out) | exact HB.out)) hb)
    clear BK125
    clear HB
    have BK125 := n0_
    have HB := n1_
    clear n0_ n1_
    (try clear hb)
    (try clear hb2)
    (try clear hk)
    (try clear hi)
    refine hK.out _ _ ⟨(blk_cell BK125.out 0).trans rfl, (blk_cell BK125.out 1).trans rfl, (blk_cell BK125.out 2).trans rfl, (blk_cell BK125.out 3).trans rfl, (blk_cell BK125.out 4).trans rfl, (blk_cell BK125.out 5).trans rfl, (blk_cell BK125.out 6).trans rfl⟩ (fun hHeld => ?_)
    clear hK K
    refine norm_ (a' := ?_) ?_ ?_
    rotate_left
    · show Act.put _ (some 7) _ = _
      simp only [Act.put, List.setIfInBounds_toArray, List.set_cons_zero, List.set_cons_succ, i64_w, i32_w]
      rfl
    refine one_ (i := 3) (N := some 9) #[true, true, true, true, false, false, false] rfl rfl (by kernel_rfl) (by decide) (fun K hK => ?_)
    refine goes_ Tryd.func25 (by kernel_rfl) rfl #[.agg #[.int .i64 a0_0, .int .i64 a0_1, .int .i64 a0_2, .int .i64 a0_3, .int .u64 a0_4, .int .u64 a0_5, .int .u64 a0_6]] (by rfl) rfl rfl (by (try simp only [List.map_toArray, List.map_cons, List.map_nil]); first | done | rfl | (simp only [List.length_drop, List.length_take]; rfl)) ?_
    with_reducible refine (forms_Form_Mask.calls a0_0 a0_1 a0_2 a0_3 a0_4 a0_5 a0_6 t127 _ A6.out).mono ?_
    rintro e w11 ⟨rfl, hb⟩
    refine ⟨_, rfl, ?_⟩
    have n0_ := Aside0.mk (blk_below (g := gb125) (o := .cells #[.int .i64 a0_0, .int .i64 a0_1, .int .i64 a0_2, .int .i64 a0_3, .int .u64 a0_4, .int .u64 a0_5, .int .u64 a0_6] 51 (0, 0)) (by (with_reducible repeat (first | refine blk_drewN ?_ _ | refine blk_drew ?_ | refine blk_alloc ?_ _)); exact BK125.out) hb)
    have n1_ := Aside0.mk (below_step (by repeat (first | (with_reducible first | exact HB.out | apply below_alloc | apply pw_below_drewN | apply below_drew1 | refine below_set ?_ GE125.out) | exact HB.out)) hb)
    clear BK125
    clear HB
    have BK125 := n0_
    have HB := n1_
    clear n0_ n1_
    (try clear hb)
    (try clear hb2)
    (try clear hk)
    (try clear hi)
    refine hK.out _ _ ⟨(blk_cell BK125.out 0).trans rfl, (blk_cell BK125.out 1).trans rfl, (blk_cell BK125.out 2).trans rfl, (blk_cell BK125.out 3).trans rfl, (blk_cell BK125.out 4).trans rfl, (blk_cell BK125.out 5).trans rfl, (blk_cell BK125.out 6).trans rfl⟩ (fun hHeld => ?_)
    clear hK K
    refine norm_ (a' := ?_) ?_ ?_
    rotate_left
    · show Act.put _ (some 9) _ = _
      simp only [Act.put, List.setIfInBounds_toArray, List.set_cons_zero, List.set_cons_succ, i64_w, i32_w]
      rfl
    refine pure_ (i := 4) (N := some 10) (v := ?_) (a' := ?_) #[true, true, true, true, true, false, false] rfl rfl (by kernel_rfl) (fun _ _ _ h => h) (Or.inl ⟨by rfl, ?_⟩) ?_ ?_
    rotate_left
    · intro w'
      go_simp
      with_reducible rfl
    rotate_left
    · simp only [Act.put, List.setIfInBounds_toArray, List.set_cons_zero, List.set_cons_succ, i64_w, i32_w]
      rfl
    refine pure_ (i := 5) (N := some 11) (v := ?_) (a' := ?_) #[true, true, true, true, true, true, false] rfl rfl (by kernel_rfl) (fun _ _ _ h => h) (Or.inl ⟨by rfl, ?_⟩) ?_ ?_
    rotate_left
    · intro w'
      go_simp
      with_reducible rfl
    rotate_left
    · simp only [Act.put, List.setIfInBounds_toArray, List.set_cons_zero, List.set_cons_succ, i64_w, i32_w]
      rfl
    refine pure_ (i := 6) (N := some 2) (v := ?_) (a' := ?_) #[true, true, true, true, true, true, true] rfl rfl (by kernel_rfl) (fun _ _ _ h => h) (Or.inl ⟨by rfl, ?_⟩) ?_ ?_
    rotate_left
    · intro w'
      go_simp
      with_reducible rfl
    rotate_left
    · simp only [Act.put, List.setIfInBounds_toArray, List.set_cons_zero, List.set_cons_succ, i64_w, i32_w]
      rfl
    refine done_ (by kernel_rfl) ?_
    try go_wp2
    go_ret
    exact ⟨by first | rfl | (simp [errW_none, errW_some] <;> rfl) | (simp [*, errW_none, errW_some] <;> rfl), by repeat (first | (with_reducible first | exact HB.out | apply below_alloc | apply pw_below_drewN | apply below_drew1 | refine below_set ?_ GE125.out) | exact HB.out)⟩

end Go.Proofs.YtmcodbgbjjldnaaDoor.Pr
