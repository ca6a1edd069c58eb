import Derived.Test.YtnbkjlebphmpnaaDoorPrx0
import Derived.Test.YtnbkjlebphmpnaaDoorPrx7
import Derived.Test.YtnbkjlebphmpnaaDoorPrx8
import Derived.Test.YtnbkjlebphmpnaaDoorGivA
import Derived.Test.YtnbkjlebphmpnaaDoorGivG
namespace Go.Proofs.YtnbkjlebphmpnaaDoor.Pr
open Go.RowKit Go.Proofs.YtnbkjlebphmpnaaDoorW.PrintWords Go.Proofs.YtnbkjlebphmpnaaDoorW.PrintLast Go.Proofs.YtnbkjlebphmpnaaDoorW.PrintMore
attribute [local go_sem] max2_int min2_int max_two min_two max_three min_three max_four min_four   -- for this text's walks alone
set_option linter.unusedVariables false
set_option linter.unusedSimpArgs false

def caliperlaw14_TransRises.j0 : Nat → Int → Int → Int → Bool → Int → Int → Bool → Option (Bool)
  | 0, _, _, _, _, _, _, _ => none
  | k + 1, x1, x2, x3, x9, x14, x16, x72 => if x72 = true then (some x9) else ((value_Key.f x1 x14).bind fun bt464 => ((value_Key.f x1 x16).bind fun bt467 => (if x9 = true then (if bt464.2.2 = 0 then (if bt467.2.2 = 0 then (if x2 > x3 then (if x2 < x3 then (some true) else (some (decide (bt464.2.1 ≥ bt467.2.1)))) else (if bt464.2.1 ≤ bt467.2.1 then (if x2 < x3 then (some true) else (some (decide (bt464.2.1 ≥ bt467.2.1)))) else (some false))) else (some false)) else (some false)) else (some false))))
def caliperlaw14_TransRises.f (k : Nat) (a0 : Int) (a1 : Int) (a2 : Int) (a3 : Int) : Option (Bool) := (caliperlaw14_shown.f k).bind fun t455 => ((value_Pattern.f a0 false a2).bind fun bt456 => ((value_Pattern.f a0 false a3).bind fun bt458 => ((trans_Turn.f k a0 a1 1 bt456.1).bind fun bt460 => ((trans_Turn.f k a0 a1 1 bt458.1).bind fun bt462 => (if bt456.2 = 0 then (if bt458.2 = 0 then (if bt460.2 = 0 then (if bt462.2 = 0 then (if a2 = 0 then (caliperlaw14_TransRises.j0 k a1 a2 a3 t455 bt460.1 bt462.1 true) else (caliperlaw14_TransRises.j0 k a1 a2 a3 t455 bt460.1 bt462.1 (a3 == 0))) else (caliperlaw14_TransRises.j0 k a1 a2 a3 t455 bt460.1 bt462.1 true)) else (caliperlaw14_TransRises.j0 k a1 a2 a3 t455 bt460.1 bt462.1 true)) else (caliperlaw14_TransRises.j0 k a1 a2 a3 t455 bt460.1 bt462.1 true)) else (caliperlaw14_TransRises.j0 k a1 a2 a3 t455 bt460.1 bt462.1 true))))))
set_option maxHeartbeats 8000000 in
set_option maxRecDepth 100000 in
theorem caliperlaw14_TransRises.calls (k : Nat) (a0 : Int) (a1 : Int) (a2 : Int) (a3 : Int) (r : Bool) (w : World) (hG : Glob w) (h : caliperlaw14_TransRises.f k a0 a1 a2 a3 = some r) :
    Calls Tryd.prog 8 #[.int .i64 a0, .int .i64 a1, .int .u64 a2, .int .u64 a3] w fun e w' => e = .returned (.bool r) ∧ Below w.heap.size w w' := by
  have HG := Aside0.mk hG
  clear hG
  have HB := Aside0.mk (Below.refl w.heap.size w)
  have H : ((caliperlaw14_shown.f k).bind fun t455 => ((value_Pattern.f a0 false a2).bind fun bt456 => ((value_Pattern.f a0 false a3).bind fun bt458 => ((trans_Turn.f k a0 a1 1 bt456.1).bind fun bt460 => ((trans_Turn.f k a0 a1 1 bt458.1).bind fun bt462 => (if bt456.2 = 0 then (if bt458.2 = 0 then (if bt460.2 = 0 then (if bt462.2 = 0 then (if a2 = 0 then (caliperlaw14_TransRises.j0 k a1 a2 a3 t455 bt460.1 bt462.1 true) else (caliperlaw14_TransRises.j0 k a1 a2 a3 t455 bt460.1 bt462.1 (a3 == 0))) else (caliperlaw14_TransRises.j0 k a1 a2 a3 t455 bt460.1 bt462.1 true)) else (caliperlaw14_TransRises.j0 k a1 a2 a3 t455 bt460.1 bt462.1 true)) else (caliperlaw14_TransRises.j0 k a1 a2 a3 t455 bt460.1 bt462.1 true)) else (caliperlaw14_TransRises.j0 k a1 a2 a3 t455 bt460.1 bt462.1 true))))))) = some r := h
  clear h
  replace H := Option.bind_eq_some_iff.mp H
  obtain ⟨t455, A50, H⟩ := H
  replace H : ((value_Pattern.f a0 false a2).bind fun bt456 => ((value_Pattern.f a0 false a3).bind fun bt458 => ((trans_Turn.f k a0 a1 1 bt456.1).bind fun bt460 => ((trans_Turn.f k a0 a1 1 bt458.1).bind fun bt462 => (if bt456.2 = 0 then (if bt458.2 = 0 then (if bt460.2 = 0 then (if bt462.2 = 0 then (if a2 = 0 then (caliperlaw14_TransRises.j0 k a1 a2 a3 t455 bt460.1 bt462.1 true) else (caliperlaw14_TransRises.j0 k a1 a2 a3 t455 bt460.1 bt462.1 (a3 == 0))) else (caliperlaw14_TransRises.j0 k a1 a2 a3 t455 bt460.1 bt462.1 true)) else (caliperlaw14_TransRises.j0 k a1 a2 a3 t455 bt460.1 bt462.1 true)) else (caliperlaw14_TransRises.j0 k a1 a2 a3 t455 bt460.1 bt462.1 true)) else (caliperlaw14_TransRises.j0 k a1 a2 a3 t455 bt460.1 bt462.1 true)))))) = some r := H
  have A5 := Aside0.mk A50
  clear A50
  replace H := Option.bind_eq_some_iff.mp H
  obtain ⟨⟨t456, t457⟩, A60, H⟩ := H
  replace H : ((value_Pattern.f a0 false a3).bind fun bt458 => ((trans_Turn.f k a0 a1 1 t456).bind fun bt460 => ((trans_Turn.f k a0 a1 1 bt458.1).bind fun bt462 => (if t457 = 0 then (if bt458.2 = 0 then (if bt460.2 = 0 then (if bt462.2 = 0 then (if a2 = 0 then (caliperlaw14_TransRises.j0 k a1 a2 a3 t455 bt460.1 bt462.1 true) else (caliperlaw14_TransRises.j0 k a1 a2 a3 t455 bt460.1 bt462.1 (a3 == 0))) else (caliperlaw14_TransRises.j0 k a1 a2 a3 t455 bt460.1 bt462.1 true)) else (caliperlaw14_TransRises.j0 k a1 a2 a3 t455 bt460.1 bt462.1 true)) else (caliperlaw14_TransRises.j0 k a1 a2 a3 t455 bt460.1 bt462.1 true)) else (caliperlaw14_TransRises.j0 k a1 a2 a3 t455 bt460.1 bt462.1 true))))) = some r := H
  have A6 := Aside0.mk A60
  clear A60
  replace H := Option.bind_eq_some_iff.mp H
  obtain ⟨⟨t458, t459⟩, A70, H⟩ := H
  replace H : ((trans_Turn.f k a0 a1 1 t456).bind fun bt460 => ((trans_Turn.f k a0 a1 1 t458).bind fun bt462 => (if t457 = 0 then (if t459 = 0 then (if bt460.2 = 0 then (if bt462.2 = 0 then (if a2 = 0 then (caliperlaw14_TransRises.j0 k a1 a2 a3 t455 bt460.1 bt462.1 true) else (caliperlaw14_TransRises.j0 k a1 a2 a3 t455 bt460.1 bt462.1 (a3 == 0))) else (caliperlaw14_TransRises.j0 k a1 a2 a3 t455 bt460.1 bt462.1 true)) else (caliperlaw14_TransRises.j0 k a1 a2 a3 t455 bt460.1 bt462.1 true)) else (caliperlaw14_TransRises.j0 k a1 a2 a3 t455 bt460.1 bt462.1 true)) else (caliperlaw14_TransRises.j0 k a1 a2 a3 t455 bt460.1 bt462.1 true)))) = some r := H
  have A7 := Aside0.mk A70
  clear A70
  replace H := Option.bind_eq_some_iff.mp H
  obtain ⟨⟨t460, t461⟩, A80, H⟩ := H
  replace H : ((trans_Turn.f k a0 a1 1 t458).bind fun bt462 => (if t457 = 0 then (if t459 = 0 then (if t461 = 0 then (if bt462.2 = 0 then (if a2 = 0 then (caliperlaw14_TransRises.j0 k a1 a2 a3 t455 t460 bt462.1 true) else (caliperlaw14_TransRises.j0 k a1 a2 a3 t455 t460 bt462.1 (a3 == 0))) else (caliperlaw14_TransRises.j0 k a1 a2 a3 t455 t460 bt462.1 true)) else (caliperlaw14_TransRises.j0 k a1 a2 a3 t455 t460 bt462.1 true)) else (caliperlaw14_TransRises.j0 k a1 a2 a3 t455 t460 bt462.1 true)) else (caliperlaw14_TransRises.j0 k a1 a2 a3 t455 t460 bt462.1 true))) = some r := H
  have A8 := Aside0.mk A80
  clear A80
  replace H := Option.bind_eq_some_iff.mp H
  obtain ⟨⟨t462, t463⟩, A90, H⟩ := H
  replace H : (if t457 = 0 then (if t459 = 0 then (if t461 = 0 then (if t463 = 0 then (if a2 = 0 then (caliperlaw14_TransRises.j0 k a1 a2 a3 t455 t460 t462 true) else (caliperlaw14_TransRises.j0 k a1 a2 a3 t455 t460 t462 (a3 == 0))) else (caliperlaw14_TransRises.j0 k a1 a2 a3 t455 t460 t462 true)) else (caliperlaw14_TransRises.j0 k a1 a2 a3 t455 t460 t462 true)) else (caliperlaw14_TransRises.j0 k a1 a2 a3 t455 t460 t462 true)) else (caliperlaw14_TransRises.j0 k a1 a2 a3 t455 t460 t462 true)) = some r := H
  have A9 := Aside0.mk A90
  clear A90
  have HC10 := Aside0.mk H
  clear H
  go_enter Tryd.func8, Tryd.ntmps8
  go_upto_region 6 with (first | ((with_reducible refine gate_callee (f := 10) rfl ?_); refine goesL_ (some 24) rfl rfl Tryd.func10 (by kernel_rfl) rfl #[] rfl (by (try simp only [List.map_toArray, List.map_cons, List.map_nil]); first | done | rfl | (simp only [List.length_drop, List.length_take]; rfl)) ?_; (with_reducible refine (caliperlaw14_shown.calls k  t455 _ ?side1 A5.out).mono ?_); (case side1 => exact Glob.below HG.out (by repeat (first | (with_reducible first | exact HB.out | apply below_alloc | apply pw_below_drewN | apply below_drew1) | exact HB.out))); rintro e w11 ⟨rfl, hb⟩; refine ⟨_, rfl, ?_⟩; have n0_ := Aside0.mk (below_step (by repeat (first | (with_reducible first | exact HB.out | apply below_alloc | apply pw_below_drewN | apply below_drew1) | exact HB.out)) hb); clear HB; have HB := n0_; clear n0_; (try clear hb); (try clear hb2); (try clear hk); (try clear hi)) | ((with_reducible refine gate_callee (f := 17) rfl ?_); refine goesL_ (some 28) rfl rfl Tryd.func17 (by kernel_rfl) rfl #[.int .i64 a0, .bool false, .int .u64 a2] rfl (by (try simp only [List.map_toArray, List.map_cons, List.map_nil]); first | done | rfl | (simp only [List.length_drop, List.length_take]; rfl)) ?_; (with_reducible refine (value_Pattern.calls a0 false a2 t456 t457 _ ?side1 A6.out).mono ?_); (case side1 => exact Glob.below HG.out (by repeat (first | (with_reducible first | exact HB.out | apply below_alloc | apply pw_below_drewN | apply below_drew1) | exact HB.out))); rintro e w12 ⟨rfl, hb⟩; refine ⟨_, rfl, ?_⟩; have n0_ := Aside0.mk (below_step (by repeat (first | (with_reducible first | exact HB.out | apply below_alloc | apply pw_below_drewN | apply below_drew1) | exact HB.out)) hb); clear HB; have HB := n0_; clear n0_; (try clear hb); (try clear hb2); (try clear hk); (try clear hi)) | ((with_reducible refine gate_callee (f := 17) rfl ?_); refine goesL_ (some 34) rfl rfl Tryd.func17 (by kernel_rfl) rfl #[.int .i64 a0, .bool false, .int .u64 a3] rfl (by (try simp only [List.map_toArray, List.map_cons, List.map_nil]); first | done | rfl | (simp only [List.length_drop, List.length_take]; rfl)) ?_; (with_reducible refine (value_Pattern.calls a0 false a3 t458 t459 _ ?side1 A7.out).mono ?_); (case side1 => exact Glob.below HG.out (by repeat (first | (with_reducible first | exact HB.out | apply below_alloc | apply pw_below_drewN | apply below_drew1) | exact HB.out))); rintro e w13 ⟨rfl, hb⟩; refine ⟨_, rfl, ?_⟩; have n0_ := Aside0.mk (below_step (by repeat (first | (with_reducible first | exact HB.out | apply below_alloc | apply pw_below_drewN | apply below_drew1) | exact HB.out)) hb); clear HB; have HB := n0_; clear n0_; (try clear hb); (try clear hb2); (try clear hk); (try clear hi)) | ((with_reducible refine gate_callee (f := 12) rfl ?_); refine goesL_ (some 41) rfl rfl Tryd.func12 (by kernel_rfl) rfl #[.int .i64 a0, .int .i64 a1, .int .i64 1, .int .u64 t456] rfl (by (try simp only [List.map_toArray, List.map_cons, List.map_nil]); first | done | rfl | (simp only [List.length_drop, List.length_take]; rfl)) ?_; (with_reducible refine (trans_Turn.calls k a0 a1 1 t456 t460 t461 _ ?side1 A8.out).mono ?_); (case side1 => exact Glob.below HG.out (by repeat (first | (with_reducible first | exact HB.out | apply below_alloc | apply pw_below_drewN | apply below_drew1) | exact HB.out))); rintro e w14 ⟨rfl, hb⟩; refine ⟨_, rfl, ?_⟩; have n0_ := Aside0.mk (below_step (by repeat (first | (with_reducible first | exact HB.out | apply below_alloc | apply pw_below_drewN | apply below_drew1) | exact HB.out)) hb); clear HB; have HB := n0_; clear n0_; (try clear hb); (try clear hb2); (try clear hk); (try clear hi)) | ((with_reducible refine gate_callee (f := 12) rfl ?_); refine goesL_ (some 48) rfl rfl Tryd.func12 (by kernel_rfl) rfl #[.int .i64 a0, .int .i64 a1, .int .i64 1, .int .u64 t458] rfl (by (try simp only [List.map_toArray, List.map_cons, List.map_nil]); first | done | rfl | (simp only [List.length_drop, List.length_take]; rfl)) ?_; (with_reducible refine (trans_Turn.calls k a0 a1 1 t458 t462 t463 _ ?side1 A9.out).mono ?_); (case side1 => exact Glob.below HG.out (by repeat (first | (with_reducible first | exact HB.out | apply below_alloc | apply pw_below_drewN | apply below_drew1) | exact HB.out))); rintro e w15 ⟨rfl, hb⟩; refine ⟨_, rfl, ?_⟩; have n0_ := Aside0.mk (below_step (by repeat (first | (with_reducible first | exact HB.out | apply below_alloc | apply pw_below_drewN | apply below_drew1) | exact HB.out)) hb); clear HB; have HB := n0_; clear n0_; (try clear hb); (try clear hb2); (try clear hk); (try clear hi)))
  (try simp only [Act.put, List.setIfInBounds_toArray, List.set_cons_zero, List.set_cons_succ])
  go_cut [72] (fun v72 wc => ∃ (kq : Nat) (x72_9 : Bool), v72 = .bool x72_9 ∧ Aside0 (caliperlaw14_TransRises.j0 kq a1 a2 a3 t455 t460 t462 x72_9 = some r) ∧ Aside0 (kq ≤ k) ∧ Aside0 (Below w.heap.size w wc))
  case first =>
    have H := HC10.out
    clear HC10
    by_cases c16 : t457 = 0
    · rw [if_pos c16] at H
      have c16b0 : (t457 == 0) = true := beq_iff_eq.mpr c16
      have c16b1 : (t457 != 0) = false := bne_eq_false_iff_eq.mpr c16
      clear c16
      (first | rw [c16b0] | (simp only [i64_w, i32_w]; rw [c16b0]) | skip)
      by_cases c17 : t459 = 0
      · rw [if_pos c17] at H
        have c17b0 : (t459 == 0) = true := beq_iff_eq.mpr c17
        have c17b1 : (t459 != 0) = false := bne_eq_false_iff_eq.mpr c17
        clear c17
        by_cases c18 : t461 = 0
        · rw [if_pos c18] at H
          have c18b0 : (t461 == 0) = true := beq_iff_eq.mpr c18
          have c18b1 : (t461 != 0) = false := bne_eq_false_iff_eq.mpr c18
          clear c18
          by_cases c19 : t463 = 0
          · rw [if_pos c19] at H
            have c19b0 : (t463 == 0) = true := beq_iff_eq.mpr c19
            have c19b1 : (t463 != 0) = false := bne_eq_false_iff_eq.mpr c19
            clear c19
            by_cases c20 : a2 = 0
            · rw [if_pos c20] at H
              have c20b0 : (a2 == 0) = true := beq_iff_eq.mpr c20
              have c20b1 : (a2 != 0) = false := bne_eq_false_iff_eq.mpr c20
              clear c20
              have H' := Aside0.mk H
              clear H
              go_wp2
              go_meet
              case rel => exact ⟨_, (true), (by first | rfl | (simp; done) | (simp [*]; done)), H', ⟨by first | omega | exact Nat.le_refl _⟩, ⟨by repeat (first | (with_reducible first | exact HB.out | apply below_alloc | apply pw_below_drewN | apply below_drew1) | exact HB.out)⟩⟩
            · rw [if_neg c20] at H
              have c20b0 : (a2 == 0) = false := beq_eq_false_iff_ne.mpr c20
              have c20b1 : (a2 != 0) = true := bne_iff_ne.mpr c20
              have H' := Aside0.mk H
              clear H
              go_wp2
              go_meet
              case rel => exact ⟨_, ((a3 == 0)), (by first | rfl | (simp; done) | (simp [*]; done)), H', ⟨by first | omega | exact Nat.le_refl _⟩, ⟨by repeat (first | (with_reducible first | exact HB.out | apply below_alloc | apply pw_below_drewN | apply below_drew1) | exact HB.out)⟩⟩
          · rw [if_neg c19] at H
            have c19b0 : (t463 == 0) = false := beq_eq_false_iff_ne.mpr c19
            have c19b1 : (t463 != 0) = true := bne_iff_ne.mpr c19
            have H' := Aside0.mk H
            clear H
            go_wp2
            go_meet
            case rel => exact ⟨_, (true), (by first | rfl | (simp; done) | (simp [*]; done)), H', ⟨by first | omega | exact Nat.le_refl _⟩, ⟨by repeat (first | (with_reducible first | exact HB.out | apply below_alloc | apply pw_below_drewN | apply below_drew1) | exact HB.out)⟩⟩
        · rw [if_neg c18] at H
          have c18b0 : (t461 == 0) = false := beq_eq_false_iff_ne.mpr c18
          have c18b1 : (t461 != 0) = true := bne_iff_ne.mpr c18
          have H' := Aside0.mk H
          clear H
          go_wp2
          go_meet
          case rel => exact ⟨_, (true), (by first | rfl | (simp; done) | (simp [*]; done)), H', ⟨by first | omega | exact Nat.le_refl _⟩, ⟨by repeat (first | (with_reducible first | exact HB.out | apply below_alloc | apply pw_below_drewN | apply below_drew1) | exact HB.out)⟩⟩
      · rw [if_neg c17] at H
        have c17b0 : (t459 == 0) = false := beq_eq_false_iff_ne.mpr c17
        have c17b1 : (t459 != 0) = true := bne_iff_ne.mpr c17
        have H' := Aside0.mk H
        clear H
        go_wp2
        go_meet
        case rel => exact ⟨_, (true), (by first | rfl | (simp; done) | (simp [*]; done)), H', ⟨by first | omega | exact Nat.le_refl _⟩, ⟨by repeat (first | (with_reducible first | exact HB.out | apply below_alloc | apply pw_below_drewN | apply below_drew1) | exact HB.out)⟩⟩
    · rw [if_neg c16] at H
      have c16b0 : (t457 == 0) = false := beq_eq_false_iff_ne.mpr c16
      have c16b1 : (t457 != 0) = true := bne_iff_ne.mpr c16
      (first | rw [c16b0] | (simp only [i64_w, i32_w]; rw [c16b0]) | skip)
      have H' := Aside0.mk H
      clear H
      go_wp2
      go_meet
      case rel => exact ⟨_, (true), (by first | rfl | (simp; done) | (simp [*]; done)), H', ⟨by first | omega | exact Nat.le_refl _⟩, ⟨by repeat (first | (with_reducible first | exact HB.out | apply below_alloc | apply pw_below_drewN | apply below_drew1) | exact HB.out)⟩⟩
  case rest =>
    clear HC10
    try clear c1
    try clear c2
    try clear p2
    try clear c8
    try clear c10
    try clear c12
    try clear c16
    try clear c16b0
    try clear c16b1
    try clear c17
    try clear c17b0
    try clear c17b1
    try clear c18
    try clear c18b0
    try clear c18b1
    try clear c19
    try clear c19b0
    try clear c19b1
    try clear c20
    try clear c20b0
    try clear c20b1
    obtain ⟨kq, x72_9, rfl, HA, HJ9, HB⟩ := hcut
    cases kq with
    | zero => exact absurd HA.out (by simp [caliperlaw14_TransRises.j0])
    | succ kj9 =>
      have H := HA.out
      clear HA
      simp only [caliperlaw14_TransRises.j0] at H
      by_cases c21 : x72_9 = true
      · subst c21
        have H1 : (some t455) = some r := by rw [if_pos rfl] at H; exact H
        clear H
        have H := H1
        clear H1
        obtain rfl := Option.some.inj H
        go_wp2
        go_ret
        exact ⟨by first | rfl | (simp [errW_none, errW_some] <;> rfl) | (simp [*, errW_none, errW_some] <;> rfl), by repeat (first | (with_reducible first | exact HB.out | apply below_alloc | apply pw_below_drewN | apply below_drew1) | exact HB.out)⟩
      · replace c21 := Bool.eq_false_iff.mpr c21
        subst c21
        have H1 : ((value_Key.f a1 t460).bind fun bt464 => ((value_Key.f a1 t462).bind fun bt467 => (if t455 = true then (if bt464.2.2 = 0 then (if bt467.2.2 = 0 then (if a2 > a3 then (if a2 < a3 then (some true) else (some (decide (bt464.2.1 ≥ bt467.2.1)))) else (if bt464.2.1 ≤ bt467.2.1 then (if a2 < a3 then (some true) else (some (decide (bt464.2.1 ≥ bt467.2.1)))) else (some false))) else (some false)) else (some false)) else (some false)))) = some r := by rw [if_neg (show ¬ (false = true) by decide)] at H; exact H
        clear H
        have H := H1
        clear H1
        replace H := Option.bind_eq_some_iff.mp H
        obtain ⟨⟨t464, t465, t466⟩, A220, H⟩ := H
        replace H : ((value_Key.f a1 t462).bind fun bt467 => (if t455 = true then (if t466 = 0 then (if bt467.2.2 = 0 then (if a2 > a3 then (if a2 < a3 then (some true) else (some (decide (t465 ≥ bt467.2.1)))) else (if t465 ≤ bt467.2.1 then (if a2 < a3 then (some true) else (some (decide (t465 ≥ bt467.2.1)))) else (some false))) else (some false)) else (some false)) else (some false))) = some r := H
        have A22 := Aside0.mk A220
        clear A220
        replace H := Option.bind_eq_some_iff.mp H
        obtain ⟨⟨t467, t468, t469⟩, A230, H⟩ := H
        replace H : (if t455 = true then (if t466 = 0 then (if t469 = 0 then (if a2 > a3 then (if a2 < a3 then (some true) else (some (decide (t465 ≥ t468)))) else (if t465 ≤ t468 then (if a2 < a3 then (some true) else (some (decide (t465 ≥ t468)))) else (some false))) else (some false)) else (some false)) else (some false)) = some r := H
        have A23 := Aside0.mk A230
        clear A230
        by_cases c24 : t455 = true
        · subst c24
          have H1 : (if t466 = 0 then (if t469 = 0 then (if a2 > a3 then (if a2 < a3 then (some true) else (some (decide (t465 ≥ t468)))) else (if t465 ≤ t468 then (if a2 < a3 then (some true) else (some (decide (t465 ≥ t468)))) else (some false))) else (some false)) else (some false)) = some r := by rw [if_pos rfl] at H; exact H
          clear H
          have H := H1
          clear H1
          by_cases c25 : t466 = 0
          · rw [if_pos c25] at H
            have c25b0 : (t466 == 0) = true := beq_iff_eq.mpr c25
            have c25b1 : (t466 != 0) = false := bne_eq_false_iff_eq.mpr c25
            clear c25
            by_cases c26 : t469 = 0
            · rw [if_pos c26] at H
              have c26b0 : (t469 == 0) = true := beq_iff_eq.mpr c26
              have c26b1 : (t469 != 0) = false := bne_eq_false_iff_eq.mpr c26
              clear c26
              by_cases c27 : a2 > a3
              · rw [if_pos c27] at H
                have c27b0 : decide (a3 < a2) = true := decide_eq_true c27
                clear c27
                by_cases c28 : a2 < a3
                · rw [if_pos c28] at H
                  have c28b0 : decide (a2 < a3) = true := decide_eq_true c28
                  clear c28
                  obtain rfl := Option.some.inj H
                  go_wp2_with (first | ((with_reducible refine gate_callee (f := 18) rfl ?_); refine goesL_ (some 77) rfl rfl Tryd.func18 (by kernel_rfl) rfl #[.int .i64 a1, .int .u64 t460] rfl (by (try simp only [List.map_toArray, List.map_cons, List.map_nil]); first | done | rfl | (simp only [List.length_drop, List.length_take]; rfl)) ?_; (with_reducible refine (value_Key.calls a1 t460 t464 t465 t466 _ ?side1 A22.out).mono ?_); (case side1 => exact Glob.below HG.out (by repeat (first | (with_reducible first | exact HB.out | apply below_alloc | apply pw_below_drewN | apply below_drew1) | exact HB.out))); rintro e w29 ⟨rfl, hb⟩; refine ⟨_, rfl, ?_⟩; have n0_ := Aside0.mk (below_step (by repeat (first | (with_reducible first | exact HB.out | apply below_alloc | apply pw_below_drewN | apply below_drew1) | exact HB.out)) hb); clear HB; have HB := n0_; clear n0_; (try clear hb); (try clear hb2); (try clear hk); (try clear hi)) | ((with_reducible refine gate_callee (f := 18) rfl ?_); refine goesL_ (some 84) rfl rfl Tryd.func18 (by kernel_rfl) rfl #[.int .i64 a1, .int .u64 t462] rfl (by (try simp only [List.map_toArray, List.map_cons, List.map_nil]); first | done | rfl | (simp only [List.length_drop, List.length_take]; rfl)) ?_; (with_reducible refine (value_Key.calls a1 t462 t467 t468 t469 _ ?side1 A23.out).mono ?_); (case side1 => exact Glob.below HG.out (by repeat (first | (with_reducible first | exact HB.out | apply below_alloc | apply pw_below_drewN | apply below_drew1) | exact HB.out))); rintro e w30 ⟨rfl, hb⟩; refine ⟨_, rfl, ?_⟩; have n0_ := Aside0.mk (below_step (by repeat (first | (with_reducible first | exact HB.out | apply below_alloc | apply pw_below_drewN | apply below_drew1) | exact HB.out)) hb); clear HB; have HB := n0_; clear n0_; (try clear hb); (try clear hb2); (try clear hk); (try clear hi)))
                  go_ret
                  exact ⟨by first | rfl | (simp [errW_none, errW_some] <;> rfl) | (simp [*, errW_none, errW_some] <;> rfl), by repeat (first | (with_reducible first | exact HB.out | apply below_alloc | apply pw_below_drewN | apply below_drew1) | exact HB.out)⟩
                · rw [if_neg c28] at H
                  have c28b0 : decide (a2 < a3) = false := decide_eq_false c28
                  clear c28
                  obtain rfl := Option.some.inj H
                  go_wp2_with (first | ((with_reducible refine gate_callee (f := 18) rfl ?_); refine goesL_ (some 77) rfl rfl Tryd.func18 (by kernel_rfl) rfl #[.int .i64 a1, .int .u64 t460] rfl (by (try simp only [List.map_toArray, List.map_cons, List.map_nil]); first | done | rfl | (simp only [List.length_drop, List.length_take]; rfl)) ?_; (with_reducible refine (value_Key.calls a1 t460 t464 t465 t466 _ ?side1 A22.out).mono ?_); (case side1 => exact Glob.below HG.out (by repeat (first | (with_reducible first | exact HB.out | apply below_alloc | apply pw_below_drewN | apply below_drew1) | exact HB.out))); rintro e w31 ⟨rfl, hb⟩; refine ⟨_, rfl, ?_⟩; have n0_ := Aside0.mk (below_step (by repeat (first | (with_reducible first | exact HB.out | apply below_alloc | apply pw_below_drewN | apply below_drew1) | exact HB.out)) hb); clear HB; have HB := n0_; clear n0_; (try clear hb); (try clear hb2); (try clear hk); (try clear hi)) | ((with_reducible refine gate_callee (f := 18) rfl ?_); refine goesL_ (some 84) rfl rfl Tryd.func18 (by kernel_rfl) rfl #[.int .i64 a1, .int .u64 t462] rfl (by (try simp only [List.map_toArray, List.map_cons, List.map_nil]); first | done | rfl | (simp only [List.length_drop, List.length_take]; rfl)) ?_; (with_reducible refine (value_Key.calls a1 t462 t467 t468 t469 _ ?side1 A23.out).mono ?_); (case side1 => exact Glob.below HG.out (by repeat (first | (with_reducible first | exact HB.out | apply below_alloc | apply pw_below_drewN | apply below_drew1) | exact HB.out))); rintro e w32 ⟨rfl, hb⟩; refine ⟨_, rfl, ?_⟩; have n0_ := Aside0.mk (below_step (by repeat (first | (with_reducible first | exact HB.out | apply below_alloc | apply pw_below_drewN | apply below_drew1) | exact HB.out)) hb); clear HB; have HB := n0_; clear n0_; (try clear hb); (try clear hb2); (try clear hk); (try clear hi)))
                  go_ret
                  exact ⟨by first | rfl | (simp [errW_none, errW_some] <;> rfl) | (simp [*, errW_none, errW_some] <;> rfl), by repeat (first | (with_reducible first | exact HB.out | apply below_alloc | apply pw_below_drewN | apply below_drew1) | exact HB.out)⟩
              · rw [if_neg c27] at H
                have c27b0 : decide (a3 < a2) = false := decide_eq_false c27
                clear c27
                by_cases c33 : t465 ≤ t468
                · rw [if_pos c33] at H
                  have c33b0 : decide (t465 ≤ t468) = true := decide_eq_true c33
                  clear c33
                  by_cases c34 : a2 < a3
                  · rw [if_pos c34] at H
                    have c34b0 : decide (a2 < a3) = true := decide_eq_true c34
                    clear c34
                    obtain rfl := Option.some.inj H
                    go_wp2_with (first | ((with_reducible refine gate_callee (f := 18) rfl ?_); refine goesL_ (some 77) rfl rfl Tryd.func18 (by kernel_rfl) rfl #[.int .i64 a1, .int .u64 t460] rfl (by (try simp only [List.map_toArray, List.map_cons, List.map_nil]); first | done | rfl | (simp only [List.length_drop, List.length_take]; rfl)) ?_; (with_reducible refine (value_Key.calls a1 t460 t464 t465 t466 _ ?side1 A22.out).mono ?_); (case side1 => exact Glob.below HG.out (by repeat (first | (with_reducible first | exact HB.out | apply below_alloc | apply pw_below_drewN | apply below_drew1) | exact HB.out))); rintro e w35 ⟨rfl, hb⟩; refine ⟨_, rfl, ?_⟩; have n0_ := Aside0.mk (below_step (by repeat (first | (with_reducible first | exact HB.out | apply below_alloc | apply pw_below_drewN | apply below_drew1) | exact HB.out)) hb); clear HB; have HB := n0_; clear n0_; (try clear hb); (try clear hb2); (try clear hk); (try clear hi)) | ((with_reducible refine gate_callee (f := 18) rfl ?_); refine goesL_ (some 84) rfl rfl Tryd.func18 (by kernel_rfl) rfl #[.int .i64 a1, .int .u64 t462] rfl (by (try simp only [List.map_toArray, List.map_cons, List.map_nil]); first | done | rfl | (simp only [List.length_drop, List.length_take]; rfl)) ?_; (with_reducible refine (value_Key.calls a1 t462 t467 t468 t469 _ ?side1 A23.out).mono ?_); (case side1 => exact Glob.below HG.out (by repeat (first | (with_reducible first | exact HB.out | apply below_alloc | apply pw_below_drewN | apply below_drew1) | exact HB.out))); rintro e w36 ⟨rfl, hb⟩; refine ⟨_, rfl, ?_⟩; have n0_ := Aside0.mk (below_step (by repeat (first | (with_reducible first | exact HB.out | apply below_alloc | apply pw_below_drewN | apply below_drew1) | exact HB.out)) hb); clear HB; have HB := n0_; clear n0_; (try clear hb); (try clear hb2); (try clear hk); (try clear hi)))
                    go_ret
                    exact ⟨by first | rfl | (simp [errW_none, errW_some] <;> rfl) | (simp [*, errW_none, errW_some] <;> rfl), by repeat (first | (with_reducible first | exact HB.out | apply below_alloc | apply pw_below_drewN | apply below_drew1) | exact HB.out)⟩
                  · rw [if_neg c34] at H
                    have c34b0 : decide (a2 < a3) = false := decide_eq_false c34
                    clear c34
                    obtain rfl := Option.some.inj H
                    go_wp2_with (first | ((with_reducible refine gate_callee (f := 18) rfl ?_); refine goesL_ (some 77) rfl rfl Tryd.func18 (by kernel_rfl) rfl #[.int .i64 a1, .int .u64 t460] rfl (by (try simp only [List.map_toArray, List.map_cons, List.map_nil]); first | done | rfl | (simp only [List.length_drop, List.length_take]; rfl)) ?_; (with_reducible refine (value_Key.calls a1 t460 t464 t465 t466 _ ?side1 A22.out).mono ?_); (case side1 => exact Glob.below HG.out (by repeat (first | (with_reducible first | exact HB.out | apply below_alloc | apply pw_below_drewN | apply below_drew1) | exact HB.out))); rintro e w37 ⟨rfl, hb⟩; refine ⟨_, rfl, ?_⟩; have n0_ := Aside0.mk (below_step (by repeat (first | (with_reducible first | exact HB.out | apply below_alloc | apply pw_below_drewN | apply below_drew1) | exact HB.out)) hb); clear HB; have HB := n0_; clear n0_; (try clear hb); (try clear hb2); (try clear hk); (try clear hi)) | ((with_reducible refine gate_callee (f := 18) rfl ?_); refine goesL_ (some 84) rfl rfl Tryd.func18 (by kernel_rfl) rfl #[.int .i64 a1, .int .u64 t462] rfl (by (try simp only [List.map_toArray, List.map_cons, List.map_nil]); first | done | rfl | (simp only [List.length_drop, List.length_take]; rfl)) ?_; (with_reducible refine (value_Key.calls a1 t462 t467 t468 t469 _ ?side1 A23.out).mono ?_); (case side1 => exact Glob.below HG.out (by repeat (first | (with_reducible first | exact HB.out | apply below_alloc | apply pw_below_drewN | apply below_drew1) | exact HB.out))); rintro e w38 ⟨rfl, hb⟩; refine ⟨_, rfl, ?_⟩; have n0_ := Aside0.mk (below_step (by repeat (first | (with_reducible first | exact HB.out | apply below_alloc | apply pw_below_drewN | apply below_drew1) | exact HB.out)) hb); clear HB; have HB := n0_; clear n0_; (try clear hb); (try clear hb2); (try clear hk); (try clear hi)))
                    go_ret
                    exact ⟨by first | rfl | (simp [errW_none, errW_some] <;> rfl) | (simp [*, errW_none, errW_some] <;> rfl), by repeat (first | (with_reducible first | exact HB.out | apply below_alloc | apply pw_below_drewN | apply below_drew1) | exact HB.out)⟩
                · rw [if_neg c33] at H
                  have c33b0 : decide (t465 ≤ t468) = false := decide_eq_false c33
                  clear c33
                  obtain rfl := Option.some.inj H
                  go_wp2_with (first | ((with_reducible refine gate_callee (f := 18) rfl ?_); refine goesL_ (some 77) rfl rfl Tryd.func18 (by kernel_rfl) rfl #[.int .i64 a1, .int .u64 t460] rfl (by (try simp only [List.map_toArray, List.map_cons, List.map_nil]); first | done | rfl | (simp only [List.length_drop, List.length_take]; rfl)) ?_; (with_reducible refine (value_Key.calls a1 t460 t464 t465 t466 _ ?side1 A22.out).mono ?_); (case side1 => exact Glob.below HG.out (by repeat (first | (with_reducible first | exact HB.out | apply below_alloc | apply pw_below_drewN | apply below_drew1) | exact HB.out))); rintro e w39 ⟨rfl, hb⟩; refine ⟨_, rfl, ?_⟩; have n0_ := Aside0.mk (below_step (by repeat (first | (with_reducible first | exact HB.out | apply below_alloc | apply pw_below_drewN | apply below_drew1) | exact HB.out)) hb); clear HB; have HB := n0_; clear n0_; (try clear hb); (try clear hb2); (try clear hk); (try clear hi)) | ((with_reducible refine gate_callee (f := 18) rfl ?_); refine goesL_ (some 84) rfl rfl Tryd.func18 (by kernel_rfl) rfl #[.int .i64 a1, .int .u64 t462] rfl (by (try simp only [List.map_toArray, List.map_cons, List.map_nil]); first | done | rfl | (simp only [List.length_drop, List.length_take]; rfl)) ?_; (with_reducible refine (value_Key.calls a1 t462 t467 t468 t469 _ ?side1 A23.out).mono ?_); (case side1 => exact Glob.below HG.out (by repeat (first | (with_reducible first | exact HB.out | apply below_alloc | apply pw_below_drewN | apply below_drew1) | exact HB.out))); rintro e w40 ⟨rfl, hb⟩; refine ⟨_, rfl, ?_⟩; have n0_ := Aside0.mk (below_step (by repeat (first | (with_reducible first | exact HB.out | apply below_alloc | apply pw_below_drewN | apply below_drew1) | exact HB.out)) hb); clear HB; have HB := n0_; clear n0_; (try clear hb); (try clear hb2); (try clear hk); (try clear hi)))
                  go_ret
                  exact ⟨by first | rfl | (simp [errW_none, errW_some] <;> rfl) | (simp [*, errW_none, errW_some] <;> rfl), by repeat (first | (with_reducible first | exact HB.out | apply below_alloc | apply pw_below_drewN | apply below_drew1) | exact HB.out)⟩
            · rw [if_neg c26] at H
              have c26b0 : (t469 == 0) = false := beq_eq_false_iff_ne.mpr c26
              have c26b1 : (t469 != 0) = true := bne_iff_ne.mpr c26
              obtain rfl := Option.some.inj H
              go_wp2_with (first | ((with_reducible refine gate_callee (f := 18) rfl ?_); refine goesL_ (some 77) rfl rfl Tryd.func18 (by kernel_rfl) rfl #[.int .i64 a1, .int .u64 t460] rfl (by (try simp only [List.map_toArray, List.map_cons, List.map_nil]); first | done | rfl | (simp only [List.length_drop, List.length_take]; rfl)) ?_; (with_reducible refine (value_Key.calls a1 t460 t464 t465 t466 _ ?side1 A22.out).mono ?_); (case side1 => exact Glob.below HG.out (by repeat (first | (with_reducible first | exact HB.out | apply below_alloc | apply pw_below_drewN | apply below_drew1) | exact HB.out))); rintro e w41 ⟨rfl, hb⟩; refine ⟨_, rfl, ?_⟩; have n0_ := Aside0.mk (below_step (by repeat (first | (with_reducible first | exact HB.out | apply below_alloc | apply pw_below_drewN | apply below_drew1) | exact HB.out)) hb); clear HB; have HB := n0_; clear n0_; (try clear hb); (try clear hb2); (try clear hk); (try clear hi)) | ((with_reducible refine gate_callee (f := 18) rfl ?_); refine goesL_ (some 84) rfl rfl Tryd.func18 (by kernel_rfl) rfl #[.int .i64 a1, .int .u64 t462] rfl (by (try simp only [List.map_toArray, List.map_cons, List.map_nil]); first | done | rfl | (simp only [List.length_drop, List.length_take]; rfl)) ?_; (with_reducible refine (value_Key.calls a1 t462 t467 t468 t469 _ ?side1 A23.out).mono ?_); (case side1 => exact Glob.below HG.out (by repeat (first | (with_reducible first | exact HB.out | apply below_alloc | apply pw_below_drewN | apply below_drew1) | exact HB.out))); rintro e w42 ⟨rfl, hb⟩; refine ⟨_, rfl, ?_⟩; have n0_ := Aside0.mk (below_step (by repeat (first | (with_reducible first | exact HB.out | apply below_alloc | apply pw_below_drewN | apply below_drew1) | exact HB.out)) hb); clear HB; have HB := n0_; clear n0_; (try clear hb); (try clear hb2); (try clear hk); (try clear hi)))
              go_ret
              exact ⟨by first | rfl | (simp [errW_none, errW_some] <;> rfl) | (simp [*, errW_none, errW_some] <;> rfl), by repeat (first | (with_reducible first | exact HB.out | apply below_alloc | apply pw_below_drewN | apply below_drew1) | exact HB.out)⟩
          · rw [if_neg c25] at H
            have c25b0 : (t466 == 0) = false := beq_eq_false_iff_ne.mpr c25
            have c25b1 : (t466 != 0) = true := bne_iff_ne.mpr c25
            obtain rfl := Option.some.inj H
            go_wp2_with (first | ((with_reducible refine gate_callee (f := 18) rfl ?_); refine goesL_ (some 77) rfl rfl Tryd.func18 (by kernel_rfl) rfl #[.int .i64 a1, .int .u64 t460] rfl (by (try simp only [List.map_toArray, List.map_cons, List.map_nil]); first | done | rfl | (simp only [List.length_drop, List.length_take]; rfl)) ?_; (with_reducible refine (value_Key.calls a1 t460 t464 t465 t466 _ ?side1 A22.out).mono ?_); (case side1 => exact Glob.below HG.out (by repeat (first | (with_reducible first | exact HB.out | apply below_alloc | apply pw_below_drewN | apply below_drew1) | exact HB.out))); rintro e w43 ⟨rfl, hb⟩; refine ⟨_, rfl, ?_⟩; have n0_ := Aside0.mk (below_step (by repeat (first | (with_reducible first | exact HB.out | apply below_alloc | apply pw_below_drewN | apply below_drew1) | exact HB.out)) hb); clear HB; have HB := n0_; clear n0_; (try clear hb); (try clear hb2); (try clear hk); (try clear hi)) | ((with_reducible refine gate_callee (f := 18) rfl ?_); refine goesL_ (some 84) rfl rfl Tryd.func18 (by kernel_rfl) rfl #[.int .i64 a1, .int .u64 t462] rfl (by (try simp only [List.map_toArray, List.map_cons, List.map_nil]); first | done | rfl | (simp only [List.length_drop, List.length_take]; rfl)) ?_; (with_reducible refine (value_Key.calls a1 t462 t467 t468 t469 _ ?side1 A23.out).mono ?_); (case side1 => exact Glob.below HG.out (by repeat (first | (with_reducible first | exact HB.out | apply below_alloc | apply pw_below_drewN | apply below_drew1) | exact HB.out))); rintro e w44 ⟨rfl, hb⟩; refine ⟨_, rfl, ?_⟩; have n0_ := Aside0.mk (below_step (by repeat (first | (with_reducible first | exact HB.out | apply below_alloc | apply pw_below_drewN | apply below_drew1) | exact HB.out)) hb); clear HB; have HB := n0_; clear n0_; (try clear hb); (try clear hb2); (try clear hk); (try clear hi)))
            go_ret
            exact ⟨by first | rfl | (simp [errW_none, errW_some] <;> rfl) | (simp [*, errW_none, errW_some] <;> rfl), by repeat (first | (with_reducible first | exact HB.out | apply below_alloc | apply pw_below_drewN | apply below_drew1) | exact HB.out)⟩
        · replace c24 := Bool.eq_false_iff.mpr c24
          subst c24
          have H1 : (some false) = some r := by rw [if_neg (show ¬ (false = true) by decide)] at H; exact H
          clear H
          have H := H1
          clear H1
          obtain rfl := Option.some.inj H
          go_wp2_with (first | ((with_reducible refine gate_callee (f := 18) rfl ?_); refine goesL_ (some 77) rfl rfl Tryd.func18 (by kernel_rfl) rfl #[.int .i64 a1, .int .u64 t460] rfl (by (try simp only [List.map_toArray, List.map_cons, List.map_nil]); first | done | rfl | (simp only [List.length_drop, List.length_take]; rfl)) ?_; (with_reducible refine (value_Key.calls a1 t460 t464 t465 t466 _ ?side1 A22.out).mono ?_); (case side1 => exact Glob.below HG.out (by repeat (first | (with_reducible first | exact HB.out | apply below_alloc | apply pw_below_drewN | apply below_drew1) | exact HB.out))); rintro e w45 ⟨rfl, hb⟩; refine ⟨_, rfl, ?_⟩; have n0_ := Aside0.mk (below_step (by repeat (first | (with_reducible first | exact HB.out | apply below_alloc | apply pw_below_drewN | apply below_drew1) | exact HB.out)) hb); clear HB; have HB := n0_; clear n0_; (try clear hb); (try clear hb2); (try clear hk); (try clear hi)) | ((with_reducible refine gate_callee (f := 18) rfl ?_); refine goesL_ (some 84) rfl rfl Tryd.func18 (by kernel_rfl) rfl #[.int .i64 a1, .int .u64 t462] rfl (by (try simp only [List.map_toArray, List.map_cons, List.map_nil]); first | done | rfl | (simp only [List.length_drop, List.length_take]; rfl)) ?_; (with_reducible refine (value_Key.calls a1 t462 t467 t468 t469 _ ?side1 A23.out).mono ?_); (case side1 => exact Glob.below HG.out (by repeat (first | (with_reducible first | exact HB.out | apply below_alloc | apply pw_below_drewN | apply below_drew1) | exact HB.out))); rintro e w46 ⟨rfl, hb⟩; refine ⟨_, rfl, ?_⟩; have n0_ := Aside0.mk (below_step (by repeat (first | (with_reducible first | exact HB.out | apply below_alloc | apply pw_below_drewN | apply below_drew1) | exact HB.out)) hb); clear HB; have HB := n0_; clear n0_; (try clear hb); (try clear hb2); (try clear hk); (try clear hi)))
          go_ret
          exact ⟨by first | rfl | (simp [errW_none, errW_some] <;> rfl) | (simp [*, errW_none, errW_some] <;> rfl), by repeat (first | (with_reducible first | exact HB.out | apply below_alloc | apply pw_below_drewN | apply below_drew1) | exact HB.out)⟩

end Go.Proofs.YtnbkjlebphmpnaaDoor.Pr
