import Derived.Test.YtmcodbgbjjldnaaDoorPrx0
import Derived.Test.YtmcodbgbjjldnaaDoorPrx3
import Derived.Test.YtmcodbgbjjldnaaDoorPrx4
import Derived.Test.YtmcodbgbjjldnaaDoorPrx13
import Derived.Test.YtmcodbgbjjldnaaDoorGivA
import Derived.Test.YtmcodbgbjjldnaaDoorGivD
import Derived.Test.YtmcodbgbjjldnaaDoorGivF
import Derived.Test.YtmcodbgbjjldnaaDoorGivS
namespace Go.Proofs.YtmcodbgbjjldnaaDoor.Pr
open Go.RowKit Go.Proofs.YtmcodbgbjjldnaaDoorW.PrintWords Go.Proofs.YtmcodbgbjjldnaaDoorW.PrintLast Go.Proofs.YtmcodbgbjjldnaaDoorW.PrintMore
attribute [local go_sem] max2_int min2_int max_two min_two max_three min_three max_four min_four   -- for this text's walks alone
set_option linter.unusedVariables false
set_option linter.unusedSimpArgs false

def caliperlaw08_RoundRises.f (k : Nat) (a0 : Int) (a1 : Bool) (a2_0 : Bool) (l2_1 : List Int) (a2_2 : Int) (a2_3 : Int) (a3_0 : Bool) (l3_1 : List Int) (a3_2 : Int) (a3_3 : Int) : Option (Bool) := (caliperlaw08_shown.f).bind fun t341 => ((caliperlaw08_small.f k a2_0 l2_1 a2_2 a2_3).bind fun bt342 => ((caliperlaw08_small.f k a3_0 l3_1 a3_2 a3_3).bind fun bt348 => ((round_Nearest.f k a0 a1 bt342.1 bt342.2.1 bt342.2.2.1 bt342.2.2.2).bind fun bt354 => ((round_Nearest.f k a0 a1 bt348.1 bt348.2.1 bt348.2.2.1 bt348.2.2.2).bind fun bt357 => (if bt354.2.2 = bt357.2.2 then (if bt354.2.2 = 0 then ((exact_Cmp.f k bt342.1 bt342.2.1 bt342.2.2.1 bt342.2.2.2 bt348.1 bt348.2.1 bt348.2.2.1 bt348.2.2.2).bind fun t360 => (if t360 < 0 then (if t341 = true then (if bt354.1 ≤ bt357.1 then (if bt354.2.1 = true then (some bt357.2.1) else (some true)) else (some false)) else (some false)) else (if t360 > 0 then (if t341 = true then (if bt354.1 ≥ bt357.1 then (if bt354.2.1 = true then (some true) else (some (!bt357.2.1))) else (some false)) else (some false)) else (if t341 = true then (if bt354.1 = bt357.1 then (some (bt354.2.1 == bt357.2.1)) else (some false)) else (some false))))) else (if t341 = true then (if bt354.1 = 0 then (some (bt357.1 == 0)) else (some false)) else (some false))) else (some false))))))
set_option maxHeartbeats 8000000 in
set_option maxRecDepth 100000 in
theorem caliperlaw08_RoundRises.calls (k : Nat) (a0 : Int) (a1 : Bool) (a2_0 : Bool) (A2_1 : Option Addr) (c2_1 : Nat) (l2_1 : List Int) (a2_2 : Int) (a2_3 : Int) (a3_0 : Bool) (A3_1 : Option Addr) (c3_1 : Nat) (l3_1 : List Int) (a3_2 : Int) (a3_3 : Int) (r : Bool) (w : World) (hG : Glob w) (hr2_1 : Kd.C (Kd.int .u64) w A2_1 l2_1.length l2_1) (hc2_1 : l2_1.length ≤ c2_1) (hr3_1 : Kd.C (Kd.int .u64) w A3_1 l3_1.length l3_1) (hc3_1 : l3_1.length ≤ c3_1) (h : caliperlaw08_RoundRises.f k a0 a1 a2_0 l2_1 a2_2 a2_3 a3_0 l3_1 a3_2 a3_3 = some r) :
    Calls Tryd.prog 4 #[.int .i64 a0, .bool a1, .agg #[.bool a2_0, .slice A2_1 l2_1.length c2_1, .int .i64 a2_2, .int .i64 a2_3], .agg #[.bool a3_0, .slice A3_1 l3_1.length c3_1, .int .i64 a3_2, .int .i64 a3_3]] w fun e w' => e = .returned (.bool r) ∧ Below w.heap.size w w' := by
  have hu25 := Tryd.underlying25
  have HR2_1 := Aside0.mk hr2_1
  have HC2_1 := Aside0.mk hc2_1
  clear hr2_1 hc2_1
  have HR3_1 := Aside0.mk hr3_1
  have HC3_1 := Aside0.mk hc3_1
  clear hr3_1 hc3_1
  have HG := Aside0.mk hG
  clear hG
  have HB := Aside0.mk (Below.refl w.heap.size w)
  have H : ((caliperlaw08_shown.f).bind fun t341 => ((caliperlaw08_small.f k a2_0 l2_1 a2_2 a2_3).bind fun bt342 => ((caliperlaw08_small.f k a3_0 l3_1 a3_2 a3_3).bind fun bt348 => ((round_Nearest.f k a0 a1 bt342.1 bt342.2.1 bt342.2.2.1 bt342.2.2.2).bind fun bt354 => ((round_Nearest.f k a0 a1 bt348.1 bt348.2.1 bt348.2.2.1 bt348.2.2.2).bind fun bt357 => (if bt354.2.2 = bt357.2.2 then (if bt354.2.2 = 0 then ((exact_Cmp.f k bt342.1 bt342.2.1 bt342.2.2.1 bt342.2.2.2 bt348.1 bt348.2.1 bt348.2.2.1 bt348.2.2.2).bind fun t360 => (if t360 < 0 then (if t341 = true then (if bt354.1 ≤ bt357.1 then (if bt354.2.1 = true then (some bt357.2.1) else (some true)) else (some false)) else (some false)) else (if t360 > 0 then (if t341 = true then (if bt354.1 ≥ bt357.1 then (if bt354.2.1 = true then (some true) else (some (!bt357.2.1))) else (some false)) else (some false)) else (if t341 = true then (if bt354.1 = bt357.1 then (some (bt354.2.1 == bt357.2.1)) else (some false)) else (some false))))) else (if t341 = true then (if bt354.1 = 0 then (some (bt357.1 == 0)) else (some false)) else (some false))) else (some false))))))) = some r := h
  clear h
  replace H := Option.bind_eq_some_iff.mp H
  obtain ⟨t341, A50, H⟩ := H
  replace H : ((caliperlaw08_small.f k a2_0 l2_1 a2_2 a2_3).bind fun bt342 => ((caliperlaw08_small.f k a3_0 l3_1 a3_2 a3_3).bind fun bt348 => ((round_Nearest.f k a0 a1 bt342.1 bt342.2.1 bt342.2.2.1 bt342.2.2.2).bind fun bt354 => ((round_Nearest.f k a0 a1 bt348.1 bt348.2.1 bt348.2.2.1 bt348.2.2.2).bind fun bt357 => (if bt354.2.2 = bt357.2.2 then (if bt354.2.2 = 0 then ((exact_Cmp.f k bt342.1 bt342.2.1 bt342.2.2.1 bt342.2.2.2 bt348.1 bt348.2.1 bt348.2.2.1 bt348.2.2.2).bind fun t360 => (if t360 < 0 then (if t341 = true then (if bt354.1 ≤ bt357.1 then (if bt354.2.1 = true then (some bt357.2.1) else (some true)) else (some false)) else (some false)) else (if t360 > 0 then (if t341 = true then (if bt354.1 ≥ bt357.1 then (if bt354.2.1 = true then (some true) else (some (!bt357.2.1))) else (some false)) else (some false)) else (if t341 = true then (if bt354.1 = bt357.1 then (some (bt354.2.1 == bt357.2.1)) else (some false)) else (some false))))) else (if t341 = true then (if bt354.1 = 0 then (some (bt357.1 == 0)) else (some false)) else (some false))) else (some false)))))) = some r := H
  have A5 := Aside0.mk A50
  clear A50
  replace H := Option.bind_eq_some_iff.mp H
  obtain ⟨⟨t342, t343, t346, t347⟩, A60, H⟩ := H
  replace H : ((caliperlaw08_small.f k a3_0 l3_1 a3_2 a3_3).bind fun bt348 => ((round_Nearest.f k a0 a1 t342 t343 t346 t347).bind fun bt354 => ((round_Nearest.f k a0 a1 bt348.1 bt348.2.1 bt348.2.2.1 bt348.2.2.2).bind fun bt357 => (if bt354.2.2 = bt357.2.2 then (if bt354.2.2 = 0 then ((exact_Cmp.f k t342 t343 t346 t347 bt348.1 bt348.2.1 bt348.2.2.1 bt348.2.2.2).bind fun t360 => (if t360 < 0 then (if t341 = true then (if bt354.1 ≤ bt357.1 then (if bt354.2.1 = true then (some bt357.2.1) else (some true)) else (some false)) else (some false)) else (if t360 > 0 then (if t341 = true then (if bt354.1 ≥ bt357.1 then (if bt354.2.1 = true then (some true) else (some (!bt357.2.1))) else (some false)) else (some false)) else (if t341 = true then (if bt354.1 = bt357.1 then (some (bt354.2.1 == bt357.2.1)) else (some false)) else (some false))))) else (if t341 = true then (if bt354.1 = 0 then (some (bt357.1 == 0)) else (some false)) else (some false))) else (some false))))) = some r := H
  have A6 := Aside0.mk A60
  clear A60
  replace H := Option.bind_eq_some_iff.mp H
  obtain ⟨⟨t348, t349, t352, t353⟩, A70, H⟩ := H
  replace H : ((round_Nearest.f k a0 a1 t342 t343 t346 t347).bind fun bt354 => ((round_Nearest.f k a0 a1 t348 t349 t352 t353).bind fun bt357 => (if bt354.2.2 = bt357.2.2 then (if bt354.2.2 = 0 then ((exact_Cmp.f k t342 t343 t346 t347 t348 t349 t352 t353).bind fun t360 => (if t360 < 0 then (if t341 = true then (if bt354.1 ≤ bt357.1 then (if bt354.2.1 = true then (some bt357.2.1) else (some true)) else (some false)) else (some false)) else (if t360 > 0 then (if t341 = true then (if bt354.1 ≥ bt357.1 then (if bt354.2.1 = true then (some true) else (some (!bt357.2.1))) else (some false)) else (some false)) else (if t341 = true then (if bt354.1 = bt357.1 then (some (bt354.2.1 == bt357.2.1)) else (some false)) else (some false))))) else (if t341 = true then (if bt354.1 = 0 then (some (bt357.1 == 0)) else (some false)) else (some false))) else (some false)))) = some r := H
  have A7 := Aside0.mk A70
  clear A70
  replace H := Option.bind_eq_some_iff.mp H
  obtain ⟨⟨t354, t355, t356⟩, A80, H⟩ := H
  replace H : ((round_Nearest.f k a0 a1 t348 t349 t352 t353).bind fun bt357 => (if t356 = bt357.2.2 then (if t356 = 0 then ((exact_Cmp.f k t342 t343 t346 t347 t348 t349 t352 t353).bind fun t360 => (if t360 < 0 then (if t341 = true then (if t354 ≤ bt357.1 then (if t355 = true then (some bt357.2.1) else (some true)) else (some false)) else (some false)) else (if t360 > 0 then (if t341 = true then (if t354 ≥ bt357.1 then (if t355 = true then (some true) else (some (!bt357.2.1))) else (some false)) else (some false)) else (if t341 = true then (if t354 = bt357.1 then (some (t355 == bt357.2.1)) else (some false)) else (some false))))) else (if t341 = true then (if t354 = 0 then (some (bt357.1 == 0)) else (some false)) else (some false))) else (some false))) = some r := H
  have A8 := Aside0.mk A80
  clear A80
  replace H := Option.bind_eq_some_iff.mp H
  obtain ⟨⟨t357, t358, t359⟩, A90, H⟩ := H
  replace H : (if t356 = t359 then (if t356 = 0 then ((exact_Cmp.f k t342 t343 t346 t347 t348 t349 t352 t353).bind fun t360 => (if t360 < 0 then (if t341 = true then (if t354 ≤ t357 then (if t355 = true then (some t358) else (some true)) else (some false)) else (some false)) else (if t360 > 0 then (if t341 = true then (if t354 ≥ t357 then (if t355 = true then (some true) else (some (!t358))) else (some false)) else (some false)) else (if t341 = true then (if t354 = t357 then (some (t355 == t358)) else (some false)) else (some false))))) else (if t341 = true then (if t354 = 0 then (some (t357 == 0)) else (some false)) else (some false))) else (some false)) = some r := H
  have A9 := Aside0.mk A90
  clear A90
  refine if c10 : t356 = t359 then ?t1_ else ?f1_
  case' t1_ =>
    rw [if_pos c10] at H
    have c10b0 : (t356 == t359) = true := beq_iff_eq.mpr c10
    have c10b1 : (t356 != t359) = false := bne_eq_false_iff_eq.mpr c10
    clear c10
    refine if c11 : t356 = 0 then ?t2_ else ?f2_
    case' t2_ =>
      rw [if_pos c11] at H
      have c11b0 : (t356 == 0) = true := beq_iff_eq.mpr c11
      have c11b1 : (t356 != 0) = false := bne_eq_false_iff_eq.mpr c11
      clear c11
      replace H := Option.bind_eq_some_iff.mp H
      obtain ⟨t360, A120, H⟩ := H
      replace H : (if t360 < 0 then (if t341 = true then (if t354 ≤ t357 then (if t355 = true then (some t358) else (some true)) else (some false)) else (some false)) else (if t360 > 0 then (if t341 = true then (if t354 ≥ t357 then (if t355 = true then (some true) else (some (!t358))) else (some false)) else (some false)) else (if t341 = true then (if t354 = t357 then (some (t355 == t358)) else (some false)) else (some false)))) = some r := H
      have A12 := Aside0.mk A120
      clear A120
      refine if c13 : t360 < 0 then ?t3_ else ?f3_
      case' t3_ =>
        rw [if_pos c13] at H
        have c13b0 : decide (t360 < 0) = true := decide_eq_true c13
        clear c13
        refine if c14 : t341 = true then ?t4_ else ?f4_
        case' t4_ =>
          subst c14
          have H1 : (if t354 ≤ t357 then (if t355 = true then (some t358) else (some true)) else (some false)) = some r := by rw [if_pos rfl] at H; exact H
          clear H
          have H := H1
          clear H1
          refine if c15 : t354 ≤ t357 then ?t5_ else ?f5_
          case' t5_ =>
            rw [if_pos c15] at H
            have c15b0 : decide (t354 ≤ t357) = true := decide_eq_true c15
            clear c15
            refine if c16 : t355 = true then ?t6_ else ?f6_
            case' t6_ =>
              subst c16
              have H1 : (some t358) = some r := by rw [if_pos rfl] at H; exact H
              clear H
              have H := H1
              clear H1
              obtain rfl := Option.some.inj H
            case' f6_ =>
              replace c16 := Bool.eq_false_iff.mpr c16
              subst c16
              have H1 : (some true) = some r := by rw [if_neg (show ¬ (false = true) by decide)] at H; exact H
              clear H
              have H := H1
              clear H1
              obtain rfl := Option.some.inj H
          case' f5_ =>
            rw [if_neg c15] at H
            have c15b0 : decide (t354 ≤ t357) = false := decide_eq_false c15
            clear c15
            obtain rfl := Option.some.inj H
        case' f4_ =>
          replace c14 := Bool.eq_false_iff.mpr c14
          subst c14
          have H1 : (some false) = some r := by rw [if_neg (show ¬ (false = true) by decide)] at H; exact H
          clear H
          have H := H1
          clear H1
          obtain rfl := Option.some.inj H
      case' f3_ =>
        rw [if_neg c13] at H
        have c13b0 : decide (t360 < 0) = false := decide_eq_false c13
        clear c13
        refine if c97 : t360 > 0 then ?t7_ else ?f7_
        case' t7_ =>
          rw [if_pos c97] at H
          have c97b0 : decide (0 < t360) = true := decide_eq_true c97
          clear c97
          refine if c98 : t341 = true then ?t8_ else ?f8_
          case' t8_ =>
            subst c98
            have H1 : (if t354 ≥ t357 then (if t355 = true then (some true) else (some (!t358))) else (some false)) = some r := by rw [if_pos rfl] at H; exact H
            clear H
            have H := H1
            clear H1
            refine if c99 : t354 ≥ t357 then ?t9_ else ?f9_
            case' t9_ =>
              rw [if_pos c99] at H
              have c99b0 : decide (t357 ≤ t354) = true := decide_eq_true c99
              clear c99
              refine if c100 : t355 = true then ?t10_ else ?f10_
              case' t10_ =>
                subst c100
                have H1 : (some true) = some r := by rw [if_pos rfl] at H; exact H
                clear H
                have H := H1
                clear H1
                obtain rfl := Option.some.inj H
              case' f10_ =>
                replace c100 := Bool.eq_false_iff.mpr c100
                subst c100
                have H1 : (some (!t358)) = some r := by rw [if_neg (show ¬ (false = true) by decide)] at H; exact H
                clear H
                have H := H1
                clear H1
                obtain rfl := Option.some.inj H
            case' f9_ =>
              rw [if_neg c99] at H
              have c99b0 : decide (t357 ≤ t354) = false := decide_eq_false c99
              clear c99
              obtain rfl := Option.some.inj H
          case' f8_ =>
            replace c98 := Bool.eq_false_iff.mpr c98
            subst c98
            have H1 : (some false) = some r := by rw [if_neg (show ¬ (false = true) by decide)] at H; exact H
            clear H
            have H := H1
            clear H1
            obtain rfl := Option.some.inj H
        case' f7_ =>
          rw [if_neg c97] at H
          have c97b0 : decide (0 < t360) = false := decide_eq_false c97
          clear c97
          refine if c181 : t341 = true then ?t11_ else ?f11_
          case' t11_ =>
            subst c181
            have H1 : (if t354 = t357 then (some (t355 == t358)) else (some false)) = some r := by rw [if_pos rfl] at H; exact H
            clear H
            have H := H1
            clear H1
            refine if c182 : t354 = t357 then ?t12_ else ?f12_
            case' t12_ =>
              rw [if_pos c182] at H
              have c182b0 : (t354 == t357) = true := beq_iff_eq.mpr c182
              have c182b1 : (t354 != t357) = false := bne_eq_false_iff_eq.mpr c182
              clear c182
              obtain rfl := Option.some.inj H
            case' f12_ =>
              rw [if_neg c182] at H
              have c182b0 : (t354 == t357) = false := beq_eq_false_iff_ne.mpr c182
              have c182b1 : (t354 != t357) = true := bne_iff_ne.mpr c182
              obtain rfl := Option.some.inj H
          case' f11_ =>
            replace c181 := Bool.eq_false_iff.mpr c181
            subst c181
            have H1 : (some false) = some r := by rw [if_neg (show ¬ (false = true) by decide)] at H; exact H
            clear H
            have H := H1
            clear H1
            obtain rfl := Option.some.inj H
    case' f2_ =>
      rw [if_neg c11] at H
      have c11b0 : (t356 == 0) = false := beq_eq_false_iff_ne.mpr c11
      have c11b1 : (t356 != 0) = true := bne_iff_ne.mpr c11
      refine if c243 : t341 = true then ?t13_ else ?f13_
      case' t13_ =>
        subst c243
        have H1 : (if t354 = 0 then (some (t357 == 0)) else (some false)) = some r := by rw [if_pos rfl] at H; exact H
        clear H
        have H := H1
        clear H1
        refine if c244 : t354 = 0 then ?t14_ else ?f14_
        case' t14_ =>
          rw [if_pos c244] at H
          have c244b0 : (t354 == 0) = true := beq_iff_eq.mpr c244
          have c244b1 : (t354 != 0) = false := bne_eq_false_iff_eq.mpr c244
          clear c244
          obtain rfl := Option.some.inj H
        case' f14_ =>
          rw [if_neg c244] at H
          have c244b0 : (t354 == 0) = false := beq_eq_false_iff_ne.mpr c244
          have c244b1 : (t354 != 0) = true := bne_iff_ne.mpr c244
          obtain rfl := Option.some.inj H
      case' f13_ =>
        replace c243 := Bool.eq_false_iff.mpr c243
        subst c243
        have H1 : (some false) = some r := by rw [if_neg (show ¬ (false = true) by decide)] at H; exact H
        clear H
        have H := H1
        clear H1
        obtain rfl := Option.some.inj H
  case' f1_ =>
    rw [if_neg c10] at H
    have c10b0 : (t356 == t359) = false := beq_eq_false_iff_ne.mpr c10
    have c10b1 : (t356 != t359) = true := bne_iff_ne.mpr c10
    obtain rfl := Option.some.inj H

  all_goals
    go_enter Tryd.func4, Tryd.ntmps4
    go_wp2_with (first | ((with_reducible refine gate_dst (N := 6) rfl ?_); refine box_event ?hg (N := 6) ?hd (cs := #[.bool a2_0, .slice A2_1 l2_1.length c2_1, .int .i64 a2_2, .int .i64 a2_3]) (t := 25) ?hr ?_; (case hd => rfl); (case hg => rfl); (case hr => first | (go_simp; done) | (go_simp; rfl)); intro gb339 hg w121 hbox hb; have n0_ := Aside0.mk (below_step (by repeat (first | (with_reducible first | exact HB.out | apply below_alloc | apply pw_below_drewN | apply below_drew1) | exact HB.out)) hb); have n1_ := Aside0.mk (hbox); have n2_ := Aside0.mk ((by rw [hg]; exact (below_size (by repeat (first | (with_reducible first | exact HB.out | apply below_alloc | apply pw_below_drewN | apply below_drew1) | exact HB.out))) : w.heap.size ≤ gb339)); have n3_ := Aside0.mk ((by rw [hg]; exact (below_size (by repeat (first | (with_reducible first | exact HB.out | apply below_alloc | apply pw_below_drewN | apply below_drew1) | exact HB.out))) : w.heap.size ≤ gb339)); clear HB; have HB := n0_; have BK339 := n1_; have GW339 := n2_; have GE339 := n3_; clear n0_ n1_ n2_ n3_; clear hb hbox hg) | ((with_reducible refine gate_dst (N := 7) rfl ?_); refine box_event ?hg (N := 7) ?hd (cs := #[.bool a3_0, .slice A3_1 l3_1.length c3_1, .int .i64 a3_2, .int .i64 a3_3]) (t := 25) ?hr ?_; (case hd => rfl); (case hg => rfl); (case hr => first | (go_simp; done) | (go_simp; rfl)); intro gb340 hg w122 hbox hb; have n0_ := Aside0.mk (blk_below (g := gb339) (o := .cells #[.bool a2_0, .slice A2_1 l2_1.length c2_1, .int .i64 a2_2, .int .i64 a2_3] 25 (0, 0)) (by (with_reducible repeat (first | refine blk_drewN ?_ _ | refine blk_drew ?_ | refine blk_alloc ?_ _)); exact BK339.out) hb); have n1_ := Aside0.mk (below_step (by repeat (first | (with_reducible first | exact HB.out | apply below_alloc | apply pw_below_drewN | apply below_drew1 | refine below_set ?_ GE339.out) | exact HB.out)) hb); have n2_ := Aside0.mk (hbox); have n3_ := Aside0.mk ((by rw [hg]; exact (below_size (by repeat (first | (with_reducible first | exact HB.out | apply below_alloc | apply pw_below_drewN | apply below_drew1 | refine below_set ?_ GE339.out) | exact HB.out))) : w.heap.size ≤ gb340)); have n4_ := Aside0.mk ((by rw [hg]; exact (below_size (by repeat (first | (with_reducible first | exact HB.out | apply below_alloc | apply pw_below_drewN | apply below_drew1 | refine below_set ?_ GE339.out) | exact HB.out))) : w.heap.size ≤ gb340)); have n5_ := Aside0.mk ((by rw [hg]; exact Nat.ne_of_lt (blk_lt (g := gb339) (o := .cells #[.bool a2_0, .slice A2_1 l2_1.length c2_1, .int .i64 a2_2, .int .i64 a2_3] 25 (0, 0)) (by (with_reducible repeat (first | refine blk_drewN ?_ _ | refine blk_drew ?_ | refine blk_alloc ?_ _)); exact BK339.out)) : gb339 ≠ gb340)); have n6_ := Aside0.mk ((by rw [hg]; exact Nat.ne_of_gt (blk_lt (g := gb339) (o := .cells #[.bool a2_0, .slice A2_1 l2_1.length c2_1, .int .i64 a2_2, .int .i64 a2_3] 25 (0, 0)) (by (with_reducible repeat (first | refine blk_drewN ?_ _ | refine blk_drew ?_ | refine blk_alloc ?_ _)); exact BK339.out)) : gb340 ≠ gb339)); clear BK339; clear HB; have BK339 := n0_; have HB := n1_; have BK340 := n2_; have GW340 := n3_; have GE340 := n4_; have NB339_340 := n5_; have NB340_339 := n6_; clear n0_ n1_ n2_ n3_ n4_ n5_ n6_; clear hb hbox hg) | ((with_reducible refine gate_callee (f := 11) rfl ?_); refine goesL_ (some 17) rfl rfl Tryd.func11 (by kernel_rfl) rfl #[] rfl (by (try simp only [List.map_toArray, List.map_cons, List.map_nil]); first | done | rfl | (simp only [List.length_drop, List.length_take]; rfl)) ?_; (with_reducible refine (caliperlaw08_shown.calls  _ _ ?side1 A5.out).mono ?_); (case side1 => exact Glob.below HG.out (by repeat (first | (with_reducible first | exact HB.out | apply below_alloc | apply pw_below_drewN | apply below_drew1 | refine below_set ?_ GE339.out | refine below_set ?_ GE340.out) | exact HB.out))); rintro e w123 ⟨rfl, hb⟩; refine ⟨_, rfl, ?_⟩; have n0_ := Aside0.mk (blk_below (g := gb339) (o := .cells #[.bool a2_0, .slice A2_1 l2_1.length c2_1, .int .i64 a2_2, .int .i64 a2_3] 25 (0, 0)) (by (with_reducible repeat (first | refine blk_drewN ?_ _ | refine blk_drew ?_ | refine blk_alloc ?_ _)); exact BK339.out) hb); have n1_ := Aside0.mk (blk_below (g := gb340) (o := .cells #[.bool a3_0, .slice A3_1 l3_1.length c3_1, .int .i64 a3_2, .int .i64 a3_3] 25 (0, 0)) (by (with_reducible repeat (first | refine blk_drewN ?_ _ | refine blk_drew ?_ | refine blk_alloc ?_ _)); exact BK340.out) hb); have n2_ := Aside0.mk (below_step (by repeat (first | (with_reducible first | exact HB.out | apply below_alloc | apply pw_below_drewN | apply below_drew1 | refine below_set ?_ GE339.out | refine below_set ?_ GE340.out) | exact HB.out)) hb); clear BK339; clear BK340; clear HB; have BK339 := n0_; have BK340 := n1_; have HB := n2_; clear n0_ n1_ n2_; (try clear hb); (try clear hb2); (try clear hk); (try clear hi); have hnb124 := NB339_340.out; have hnc124 := NB340_339.out; have hcz125_0 : w123.cell? ⟨gb339, 0, none⟩ = some (.bool a2_0) := (blk_cell BK339.out 0).trans rfl; have hcz125_1 : w123.cell? ⟨gb339, 1, none⟩ = some (.slice A2_1 l2_1.length c2_1) := (blk_cell BK339.out 1).trans rfl; have hcz125_2 : w123.cell? ⟨gb339, 2, none⟩ = some (.int .i64 a2_2) := (blk_cell BK339.out 2).trans rfl; have hcz125_3 : w123.cell? ⟨gb339, 3, none⟩ = some (.int .i64 a2_3) := (blk_cell BK339.out 3).trans rfl; have hfz125_0 := blk_frozen BK339.out 0; have hfz125_1 := blk_frozen BK339.out 1; have hfz125_2 := blk_frozen BK339.out 2; have hfz125_3 := blk_frozen BK339.out 3) | ((with_reducible refine gate_callee (f := 12) rfl ?_); refine goesL_ (some 19) rfl rfl Tryd.func12 (by kernel_rfl) rfl #[.agg #[.bool a2_0, .slice A2_1 l2_1.length c2_1, .int .i64 a2_2, .int .i64 a2_3]] rfl (by (try simp only [List.map_toArray, List.map_cons, List.map_nil]); first | done | rfl | (simp only [List.length_drop, List.length_take]; rfl)) ?_; (with_reducible refine (caliperlaw08_small.calls k a2_0 (fun k_ => k_ < w.heap.size) _ _ l2_1 a2_2 a2_3 t342 t343 t346 t347 _ ?side1 A6.out).mono ?_); (case side1 => exact Kd.V_mk HC2_1.out (Kd.F_below (Kd.C_F (Kd.heap_int .u64) HR2_1.out) (by repeat (first | (with_reducible first | exact HB.out | apply below_alloc | apply pw_below_drewN | apply below_drew1 | refine below_set ?_ GE339.out | refine below_set ?_ GE340.out) | exact HB.out)))); rintro e w126 ⟨v344, rfl, ho0, hb⟩; refine ⟨_, rfl, ?_⟩; have n0_ := Aside0.mk (Kd.V_lower (Kd.V_mono (ok' := fun k_ => k_ ≠ gb339 ∧ k_ ≠ gb340) ho0 (fun k_ hk_ => ⟨Or.elim hk_ (fun hs_ => fun e_ => Nat.not_le.2 hs_ (by rw [e_]; exact GW339.out)) (fun hn_ => (Kd.freshB (g := gb339) (o := .cells #[.bool a2_0, .slice A2_1 l2_1.length c2_1, .int .i64 a2_2, .int .i64 a2_3] 25 (0, 0)) (by (with_reducible repeat (first | refine blk_drewN ?_ _ | refine blk_drew ?_ | refine blk_alloc ?_ _)); exact BK339.out) k_ hn_)), Or.elim hk_ (fun hs_ => fun e_ => Nat.not_le.2 hs_ (by rw [e_]; exact GW340.out)) (fun hn_ => (Kd.freshB (g := gb340) (o := .cells #[.bool a3_0, .slice A3_1 l3_1.length c3_1, .int .i64 a3_2, .int .i64 a3_3] 25 (0, 0)) (by (with_reducible repeat (first | refine blk_drewN ?_ _ | refine blk_drew ?_ | refine blk_alloc ?_ _)); exact BK340.out) k_ hn_))⟩)) (below_size (by repeat (first | (with_reducible first | exact HB.out | apply below_alloc | apply pw_below_drewN | apply below_drew1 | refine below_set ?_ GE339.out | refine below_set ?_ GE340.out) | exact HB.out)))); have n1_ := Aside0.mk (blk_below (g := gb339) (o := .cells #[.bool a2_0, .slice A2_1 l2_1.length c2_1, .int .i64 a2_2, .int .i64 a2_3] 25 (0, 0)) (by (with_reducible repeat (first | refine blk_drewN ?_ _ | refine blk_drew ?_ | refine blk_alloc ?_ _)); exact BK339.out) hb); have n2_ := Aside0.mk (blk_below (g := gb340) (o := .cells #[.bool a3_0, .slice A3_1 l3_1.length c3_1, .int .i64 a3_2, .int .i64 a3_3] 25 (0, 0)) (by (with_reducible repeat (first | refine blk_drewN ?_ _ | refine blk_drew ?_ | refine blk_alloc ?_ _)); exact BK340.out) hb); have n3_ := Aside0.mk (below_step (by repeat (first | (with_reducible first | exact HB.out | apply below_alloc | apply pw_below_drewN | apply below_drew1 | refine below_set ?_ GE339.out | refine below_set ?_ GE340.out) | exact HB.out)) hb); clear BK339; clear BK340; clear HB; have HO345 := n0_; have BK339 := n1_; have BK340 := n2_; have HB := n3_; clear n0_ n1_ n2_ n3_; (try clear hb); (try clear hb2); (try clear hk); (try clear hi); (try clear ho0); have hcz127_0 : w126.cell? ⟨gb339, 0, none⟩ = some (.bool a2_0) := (blk_cell BK339.out 0).trans rfl; have hcz127_1 : w126.cell? ⟨gb339, 1, none⟩ = some (.slice A2_1 l2_1.length c2_1) := (blk_cell BK339.out 1).trans rfl; have hcz127_2 : w126.cell? ⟨gb339, 2, none⟩ = some (.int .i64 a2_2) := (blk_cell BK339.out 2).trans rfl; have hcz127_3 : w126.cell? ⟨gb339, 3, none⟩ = some (.int .i64 a2_3) := (blk_cell BK339.out 3).trans rfl; have hfz127_0 := blk_frozen BK339.out 0; have hfz127_1 := blk_frozen BK339.out 1; have hfz127_2 := blk_frozen BK339.out 2; have hfz127_3 := blk_frozen BK339.out 3; obtain ⟨Ao128, co128, eo128⟩ := Kd.V_slice HO345.out; subst eo128) | ((with_reducible refine gate_store (t := 25) (p := 6) rfl ?_); refine store_event (t := 25) (p := 6) (v := ?vo_w129) (w1 := ((((w126.setCell ⟨gb339, 0, none⟩ (.bool t342)).setCell ⟨gb339, 1, none⟩ (.slice Ao128 t343.length co128)).setCell ⟨gb339, 2, none⟩ (.int .i64 t346)).setCell ⟨gb339, 3, none⟩ (.int .i64 t347))) ?hg ?ho ?hn ?hr ?_; (case ho => rfl); (case hg => rfl); (case hn => rfl); (case hr => first | (go_simp; done) | (go_simp; rfl)); intro w129 hw; have n0_ : Aside0 (Kd.V (Kd.int .u64) 28 w129 w.heap.size (fun k_ => k_ ≠ gb339 ∧ k_ ≠ gb340) (.slice Ao128 t343.length co128) t343) := ⟨(by rw [hw]; exact (by (with_reducible repeat (first | apply Kd.V_alloc | apply Kd.V_drewN | apply Kd.V_drew)); exact Kd.V_mono (Kd.V_far (p := ⟨gb339, 3, none⟩) (Kd.V_far (p := ⟨gb339, 2, none⟩) (Kd.V_far (p := ⟨gb339, 1, none⟩) (Kd.V_far (p := ⟨gb339, 0, none⟩) (Kd.V_mono HO345.out (fun k_ hk => (⟨hk, hk.1⟩ : _ ∧ k_ ≠ gb339))) (fun _ hk => hk.2) (.bool t342)) (fun _ hk => hk.2) (.slice Ao128 t343.length co128)) (fun _ hk => hk.2) (.int .i64 t346)) (fun _ hk => hk.2) (.int .i64 t347)) (fun _ hk => ⟨hk.1.1, hk.1.2⟩)))⟩; have n1_ : Aside0 (w129.heap[gb339]? = some (.cells #[.bool t342, .slice Ao128 t343.length co128, .int .i64 t346, .int .i64 t347] 25 (0, 0))) := ⟨(by rw [hw]; exact (by (with_reducible repeat (first | refine blk_drewN ?_ _ | refine blk_drew ?_ | refine blk_alloc ?_ _)); refine blk_put (cs := #[.bool t342, .slice Ao128 t343.length co128, .int .i64 t346, .int .i64 a2_3]) ?_ 3 _ rfl; (with_reducible repeat (first | refine blk_drewN ?_ _ | refine blk_drew ?_ | refine blk_alloc ?_ _)); refine blk_put (cs := #[.bool t342, .slice Ao128 t343.length co128, .int .i64 a2_2, .int .i64 a2_3]) ?_ 2 _ rfl; (with_reducible repeat (first | refine blk_drewN ?_ _ | refine blk_drew ?_ | refine blk_alloc ?_ _)); refine blk_put (cs := #[.bool t342, .slice A2_1 l2_1.length c2_1, .int .i64 a2_2, .int .i64 a2_3]) ?_ 1 _ rfl; (with_reducible repeat (first | refine blk_drewN ?_ _ | refine blk_drew ?_ | refine blk_alloc ?_ _)); refine blk_put (cs := #[.bool a2_0, .slice A2_1 l2_1.length c2_1, .int .i64 a2_2, .int .i64 a2_3]) ?_ 0 _ rfl; (with_reducible repeat (first | refine blk_drewN ?_ _ | refine blk_drew ?_ | refine blk_alloc ?_ _)); exact BK339.out))⟩; have n2_ : Aside0 (w129.heap[gb340]? = some (.cells #[.bool a3_0, .slice A3_1 l3_1.length c3_1, .int .i64 a3_2, .int .i64 a3_3] 25 (0, 0))) := ⟨(by rw [hw]; exact (by (with_reducible repeat (first | refine blk_drewN ?_ _ | refine blk_drew ?_ | refine blk_alloc ?_ _)); refine blk_far ?_ NB340_339.out _; (with_reducible repeat (first | refine blk_drewN ?_ _ | refine blk_drew ?_ | refine blk_alloc ?_ _)); refine blk_far ?_ NB340_339.out _; (with_reducible repeat (first | refine blk_drewN ?_ _ | refine blk_drew ?_ | refine blk_alloc ?_ _)); refine blk_far ?_ NB340_339.out _; (with_reducible repeat (first | refine blk_drewN ?_ _ | refine blk_drew ?_ | refine blk_alloc ?_ _)); refine blk_far ?_ NB340_339.out _; (with_reducible repeat (first | refine blk_drewN ?_ _ | refine blk_drew ?_ | refine blk_alloc ?_ _)); exact BK340.out))⟩; have n3_ : Aside0 (Below w.heap.size w w129) := ⟨(by rw [hw]; exact (by repeat (first | (with_reducible first | exact HB.out | apply below_alloc | apply pw_below_drewN | apply below_drew1 | refine below_set ?_ GE339.out | refine below_set ?_ GE340.out) | exact HB.out)))⟩; clear hw; clear HO345; clear BK339; clear BK340; clear HB; have HO345 := n0_; have BK339 := n1_; have BK340 := n2_; have HB := n3_; clear n0_ n1_ n2_ n3_; have hcz130_0 : w129.cell? ⟨gb340, 0, none⟩ = some (.bool a3_0) := (blk_cell BK340.out 0).trans rfl; have hcz130_1 : w129.cell? ⟨gb340, 1, none⟩ = some (.slice A3_1 l3_1.length c3_1) := (blk_cell BK340.out 1).trans rfl; have hcz130_2 : w129.cell? ⟨gb340, 2, none⟩ = some (.int .i64 a3_2) := (blk_cell BK340.out 2).trans rfl; have hcz130_3 : w129.cell? ⟨gb340, 3, none⟩ = some (.int .i64 a3_3) := (blk_cell BK340.out 3).trans rfl; have hfz130_0 := blk_frozen BK340.out 0; have hfz130_1 := blk_frozen BK340.out 1; have hfz130_2 := blk_frozen BK340.out 2; have hfz130_3 := blk_frozen BK340.out 3) | ((with_reducible refine gate_callee (f := 12) rfl ?_); refine goesL_ (some 21) rfl rfl Tryd.func12 (by kernel_rfl) rfl #[.agg #[.bool a3_0, .slice A3_1 l3_1.length c3_1, .int .i64 a3_2, .int .i64 a3_3]] rfl (by (try simp only [List.map_toArray, List.map_cons, List.map_nil]); first | done | rfl | (simp only [List.length_drop, List.length_take]; rfl)) ?_; (with_reducible refine (caliperlaw08_small.calls k a3_0 (fun k_ => k_ < w.heap.size) _ _ l3_1 a3_2 a3_3 t348 t349 t352 t353 _ ?side1 A7.out).mono ?_); (case side1 => exact Kd.V_mk HC3_1.out (Kd.F_below (Kd.C_F (Kd.heap_int .u64) HR3_1.out) (by repeat (first | (with_reducible first | exact HB.out | apply below_alloc | apply pw_below_drewN | apply below_drew1 | refine below_set ?_ GE339.out | refine below_set ?_ GE340.out) | exact HB.out)))); rintro e w131 ⟨v350, rfl, ho0, hb⟩; refine ⟨_, rfl, ?_⟩; have n0_ := Aside0.mk (Kd.V_below (by (with_reducible repeat (first | apply Kd.V_alloc | apply Kd.V_drewN | apply Kd.V_drew)); exact HO345.out) hb); have n1_ := Aside0.mk (Kd.V_lower (Kd.V_mono (ok' := fun k_ => k_ ≠ gb339 ∧ k_ ≠ gb340) ho0 (fun k_ hk_ => ⟨Or.elim hk_ (fun hs_ => fun e_ => Nat.not_le.2 hs_ (by rw [e_]; exact GW339.out)) (fun hn_ => (Kd.freshB (g := gb339) (o := .cells #[.bool t342, .slice Ao128 t343.length co128, .int .i64 t346, .int .i64 t347] 25 (0, 0)) (by (with_reducible repeat (first | refine blk_drewN ?_ _ | refine blk_drew ?_ | refine blk_alloc ?_ _)); exact BK339.out) k_ hn_)), Or.elim hk_ (fun hs_ => fun e_ => Nat.not_le.2 hs_ (by rw [e_]; exact GW340.out)) (fun hn_ => (Kd.freshB (g := gb340) (o := .cells #[.bool a3_0, .slice A3_1 l3_1.length c3_1, .int .i64 a3_2, .int .i64 a3_3] 25 (0, 0)) (by (with_reducible repeat (first | refine blk_drewN ?_ _ | refine blk_drew ?_ | refine blk_alloc ?_ _)); exact BK340.out) k_ hn_))⟩)) (below_size (by repeat (first | (with_reducible first | exact HB.out | apply below_alloc | apply pw_below_drewN | apply below_drew1 | refine below_set ?_ GE339.out | refine below_set ?_ GE340.out) | exact HB.out)))); have n2_ := Aside0.mk (blk_below (g := gb339) (o := .cells #[.bool t342, .slice Ao128 t343.length co128, .int .i64 t346, .int .i64 t347] 25 (0, 0)) (by (with_reducible repeat (first | refine blk_drewN ?_ _ | refine blk_drew ?_ | refine blk_alloc ?_ _)); exact BK339.out) hb); have n3_ := Aside0.mk (blk_below (g := gb340) (o := .cells #[.bool a3_0, .slice A3_1 l3_1.length c3_1, .int .i64 a3_2, .int .i64 a3_3] 25 (0, 0)) (by (with_reducible repeat (first | refine blk_drewN ?_ _ | refine blk_drew ?_ | refine blk_alloc ?_ _)); exact BK340.out) hb); have n4_ := Aside0.mk (below_step (by repeat (first | (with_reducible first | exact HB.out | apply below_alloc | apply pw_below_drewN | apply below_drew1 | refine below_set ?_ GE339.out | refine below_set ?_ GE340.out) | exact HB.out)) hb); clear HO345; clear BK339; clear BK340; clear HB; have HO345 := n0_; have HO351 := n1_; have BK339 := n2_; have BK340 := n3_; have HB := n4_; clear n0_ n1_ n2_ n3_ n4_; (try clear hb); (try clear hb2); (try clear hk); (try clear hi); (try clear ho0); have hcz132_0 : w131.cell? ⟨gb340, 0, none⟩ = some (.bool a3_0) := (blk_cell BK340.out 0).trans rfl; have hcz132_1 : w131.cell? ⟨gb340, 1, none⟩ = some (.slice A3_1 l3_1.length c3_1) := (blk_cell BK340.out 1).trans rfl; have hcz132_2 : w131.cell? ⟨gb340, 2, none⟩ = some (.int .i64 a3_2) := (blk_cell BK340.out 2).trans rfl; have hcz132_3 : w131.cell? ⟨gb340, 3, none⟩ = some (.int .i64 a3_3) := (blk_cell BK340.out 3).trans rfl; have hfz132_0 := blk_frozen BK340.out 0; have hfz132_1 := blk_frozen BK340.out 1; have hfz132_2 := blk_frozen BK340.out 2; have hfz132_3 := blk_frozen BK340.out 3; obtain ⟨Ao133, co133, eo133⟩ := Kd.V_slice HO351.out; subst eo133; have hcz134_0 : w131.cell? ⟨gb339, 0, none⟩ = some (.bool t342) := (blk_cell BK339.out 0).trans rfl; have hcz134_1 : w131.cell? ⟨gb339, 1, none⟩ = some (.slice Ao128 t343.length co128) := (blk_cell BK339.out 1).trans rfl; have hcz134_2 : w131.cell? ⟨gb339, 2, none⟩ = some (.int .i64 t346) := (blk_cell BK339.out 2).trans rfl; have hcz134_3 : w131.cell? ⟨gb339, 3, none⟩ = some (.int .i64 t347) := (blk_cell BK339.out 3).trans rfl; have hfz134_0 := blk_frozen BK339.out 0; have hfz134_1 := blk_frozen BK339.out 1; have hfz134_2 := blk_frozen BK339.out 2; have hfz134_3 := blk_frozen BK339.out 3) | ((with_reducible refine gate_callee (f := 14) rfl ?_); refine goesL_ (some 26) rfl rfl Tryd.func14 (by kernel_rfl) rfl #[.int .i64 a0, .bool a1, .agg #[.bool t342, .slice Ao128 t343.length co128, .int .i64 t346, .int .i64 t347]] rfl (by (try simp only [List.map_toArray, List.map_cons, List.map_nil]); first | done | rfl | (simp only [List.length_drop, List.length_take]; rfl)) ?_; (with_reducible refine (round_Nearest.calls k a0 a1 t342 _ _ t343 t346 t347 t354 _ t356 _ ?side3 ?side1 ?side2 A8.out).mono ?_); (case side1 => refine (Kd.V_reads' (e := 28) (base := w.heap.size) (ok := fun k_ => (k_ ≠ gb339 ∧ k_ ≠ gb340)) (n := t343.length) (c := co128) ?_).2.2; exact (by (with_reducible repeat (first | apply Kd.V_alloc | apply Kd.V_drewN | apply Kd.V_drew)); exact (Kd.V_mono (Kd.V_far (p := ⟨gb340, 3, none⟩) (Kd.V_far (p := ⟨gb340, 2, none⟩) (Kd.V_far (p := ⟨gb340, 1, none⟩) (Kd.V_far (p := ⟨gb340, 0, none⟩) (Kd.V_mono HO345.out (fun k_ hk => (⟨hk, hk.2⟩ : _ ∧ k_ ≠ gb340))) (fun _ hk => hk.2) (.bool t348)) (fun _ hk => hk.2) (.slice Ao133 t349.length co133)) (fun _ hk => hk.2) (.int .i64 t352)) (fun _ hk => hk.2) (.int .i64 t353)) (fun _ h_ => h_.1)))); (case side2 => exact (Kd.V_reads' HO345.out).2.1); (case side3 => exact Glob.below HG.out (by repeat (first | (with_reducible first | exact HB.out | apply below_alloc | apply pw_below_drewN | apply below_drew1 | refine below_set ?_ GE339.out | refine below_set ?_ GE340.out) | exact HB.out))); rintro e w135 ⟨rfl, hb⟩; refine ⟨_, rfl, ?_⟩; have n0_ := Aside0.mk (Kd.V_below (by (with_reducible repeat (first | apply Kd.V_alloc | apply Kd.V_drewN | apply Kd.V_drew)); exact (Kd.V_mono (Kd.V_far (p := ⟨gb340, 3, none⟩) (Kd.V_far (p := ⟨gb340, 2, none⟩) (Kd.V_far (p := ⟨gb340, 1, none⟩) (Kd.V_far (p := ⟨gb340, 0, none⟩) (Kd.V_mono HO345.out (fun k_ hk => (⟨hk, hk.2⟩ : _ ∧ k_ ≠ gb340))) (fun _ hk => hk.2) (.bool t348)) (fun _ hk => hk.2) (.slice Ao133 t349.length co133)) (fun _ hk => hk.2) (.int .i64 t352)) (fun _ hk => hk.2) (.int .i64 t353)) (fun _ h_ => h_.1))) hb); have n1_ := Aside0.mk (Kd.V_below (by (with_reducible repeat (first | apply Kd.V_alloc | apply Kd.V_drewN | apply Kd.V_drew)); exact (Kd.V_mono (Kd.V_far (p := ⟨gb340, 3, none⟩) (Kd.V_far (p := ⟨gb340, 2, none⟩) (Kd.V_far (p := ⟨gb340, 1, none⟩) (Kd.V_far (p := ⟨gb340, 0, none⟩) (Kd.V_mono HO351.out (fun k_ hk => (⟨hk, hk.2⟩ : _ ∧ k_ ≠ gb340))) (fun _ hk => hk.2) (.bool t348)) (fun _ hk => hk.2) (.slice Ao133 t349.length co133)) (fun _ hk => hk.2) (.int .i64 t352)) (fun _ hk => hk.2) (.int .i64 t353)) (fun _ h_ => h_.1))) hb); have n2_ := Aside0.mk (blk_below (g := gb339) (o := .cells #[.bool t342, .slice Ao128 t343.length co128, .int .i64 t346, .int .i64 t347] 25 (0, 0)) (by (with_reducible repeat (first | refine blk_drewN ?_ _ | refine blk_drew ?_ | refine blk_alloc ?_ _)); refine blk_far ?_ NB339_340.out _; (with_reducible repeat (first | refine blk_drewN ?_ _ | refine blk_drew ?_ | refine blk_alloc ?_ _)); refine blk_far ?_ NB339_340.out _; (with_reducible repeat (first | refine blk_drewN ?_ _ | refine blk_drew ?_ | refine blk_alloc ?_ _)); refine blk_far ?_ NB339_340.out _; (with_reducible repeat (first | refine blk_drewN ?_ _ | refine blk_drew ?_ | refine blk_alloc ?_ _)); refine blk_far ?_ NB339_340.out _; (with_reducible repeat (first | refine blk_drewN ?_ _ | refine blk_drew ?_ | refine blk_alloc ?_ _)); exact BK339.out) hb); have n3_ := Aside0.mk (blk_below (g := gb340) (o := .cells #[.bool t348, .slice Ao133 t349.length co133, .int .i64 t352, .int .i64 t353] 25 (0, 0)) (by (with_reducible repeat (first | refine blk_drewN ?_ _ | refine blk_drew ?_ | refine blk_alloc ?_ _)); refine blk_put (cs := #[.bool t348, .slice Ao133 t349.length co133, .int .i64 t352, .int .i64 a3_3]) ?_ 3 _ rfl; (with_reducible repeat (first | refine blk_drewN ?_ _ | refine blk_drew ?_ | refine blk_alloc ?_ _)); refine blk_put (cs := #[.bool t348, .slice Ao133 t349.length co133, .int .i64 a3_2, .int .i64 a3_3]) ?_ 2 _ rfl; (with_reducible repeat (first | refine blk_drewN ?_ _ | refine blk_drew ?_ | refine blk_alloc ?_ _)); refine blk_put (cs := #[.bool t348, .slice A3_1 l3_1.length c3_1, .int .i64 a3_2, .int .i64 a3_3]) ?_ 1 _ rfl; (with_reducible repeat (first | refine blk_drewN ?_ _ | refine blk_drew ?_ | refine blk_alloc ?_ _)); refine blk_put (cs := #[.bool a3_0, .slice A3_1 l3_1.length c3_1, .int .i64 a3_2, .int .i64 a3_3]) ?_ 0 _ rfl; (with_reducible repeat (first | refine blk_drewN ?_ _ | refine blk_drew ?_ | refine blk_alloc ?_ _)); exact BK340.out) hb); have n4_ := Aside0.mk (below_step (by repeat (first | (with_reducible first | exact HB.out | apply below_alloc | apply pw_below_drewN | apply below_drew1 | refine below_set ?_ GE339.out | refine below_set ?_ GE340.out) | exact HB.out)) hb); clear HO345; clear HO351; clear BK339; clear BK340; clear HB; have HO345 := n0_; have HO351 := n1_; have BK339 := n2_; have BK340 := n3_; have HB := n4_; clear n0_ n1_ n2_ n3_ n4_; (try clear hb); (try clear hb2); (try clear hk); (try clear hi); have hcz136_0 : w135.cell? ⟨gb340, 0, none⟩ = some (.bool t348) := (blk_cell BK340.out 0).trans rfl; have hcz136_1 : w135.cell? ⟨gb340, 1, none⟩ = some (.slice Ao133 t349.length co133) := (blk_cell BK340.out 1).trans rfl; have hcz136_2 : w135.cell? ⟨gb340, 2, none⟩ = some (.int .i64 t352) := (blk_cell BK340.out 2).trans rfl; have hcz136_3 : w135.cell? ⟨gb340, 3, none⟩ = some (.int .i64 t353) := (blk_cell BK340.out 3).trans rfl; have hfz136_0 := blk_frozen BK340.out 0; have hfz136_1 := blk_frozen BK340.out 1; have hfz136_2 := blk_frozen BK340.out 2; have hfz136_3 := blk_frozen BK340.out 3) | ((with_reducible refine gate_callee (f := 14) rfl ?_); refine goesL_ (some 34) rfl rfl Tryd.func14 (by kernel_rfl) rfl #[.int .i64 a0, .bool a1, .agg #[.bool t348, .slice Ao133 t349.length co133, .int .i64 t352, .int .i64 t353]] rfl (by (try simp only [List.map_toArray, List.map_cons, List.map_nil]); first | done | rfl | (simp only [List.length_drop, List.length_take]; rfl)) ?_; (with_reducible refine (round_Nearest.calls k a0 a1 t348 _ _ t349 t352 t353 t357 t358 t359 _ ?side3 ?side1 ?side2 A9.out).mono ?_); (case side1 => repeat (first | exact (Kd.V_reads' HO351.out).2.2 | (with_reducible refine Kd.C_alloc ?_ _) | (with_reducible refine Kd.C_drewN ?_ _) | (with_reducible refine Kd.C_drew ?_))); (case side2 => exact (Kd.V_reads' HO351.out).2.1); (case side3 => exact Glob.below HG.out (by repeat (first | (with_reducible first | exact HB.out | apply below_alloc | apply pw_below_drewN | apply below_drew1 | refine below_set ?_ GE339.out | refine below_set ?_ GE340.out) | exact HB.out))); rintro e w137 ⟨rfl, hb⟩; refine ⟨_, rfl, ?_⟩; have n0_ := Aside0.mk (Kd.V_below (by (with_reducible repeat (first | apply Kd.V_alloc | apply Kd.V_drewN | apply Kd.V_drew)); exact HO345.out) hb); have n1_ := Aside0.mk (Kd.V_below (by (with_reducible repeat (first | apply Kd.V_alloc | apply Kd.V_drewN | apply Kd.V_drew)); exact HO351.out) hb); have n2_ := Aside0.mk (blk_below (g := gb339) (o := .cells #[.bool t342, .slice Ao128 t343.length co128, .int .i64 t346, .int .i64 t347] 25 (0, 0)) (by (with_reducible repeat (first | refine blk_drewN ?_ _ | refine blk_drew ?_ | refine blk_alloc ?_ _)); exact BK339.out) hb); have n3_ := Aside0.mk (blk_below (g := gb340) (o := .cells #[.bool t348, .slice Ao133 t349.length co133, .int .i64 t352, .int .i64 t353] 25 (0, 0)) (by (with_reducible repeat (first | refine blk_drewN ?_ _ | refine blk_drew ?_ | refine blk_alloc ?_ _)); exact BK340.out) hb); have n4_ := Aside0.mk (below_step (by repeat (first | (with_reducible first | exact HB.out | apply below_alloc | apply pw_below_drewN | apply below_drew1 | refine below_set ?_ GE339.out | refine below_set ?_ GE340.out) | exact HB.out)) hb); clear HO345; clear HO351; clear BK339; clear BK340; clear HB; have HO345 := n0_; have HO351 := n1_; have BK339 := n2_; have BK340 := n3_; have HB := n4_; clear n0_ n1_ n2_ n3_ n4_; (try clear hb); (try clear hb2); (try clear hk); (try clear hi); have hcz138_0 : w137.cell? ⟨gb339, 0, none⟩ = some (.bool t342) := (blk_cell BK339.out 0).trans rfl; have hcz138_1 : w137.cell? ⟨gb339, 1, none⟩ = some (.slice Ao128 t343.length co128) := (blk_cell BK339.out 1).trans rfl; have hcz138_2 : w137.cell? ⟨gb339, 2, none⟩ = some (.int .i64 t346) := (blk_cell BK339.out 2).trans rfl; have hcz138_3 : w137.cell? ⟨gb339, 3, none⟩ = some (.int .i64 t347) := (blk_cell BK339.out 3).trans rfl; have hfz138_0 := blk_frozen BK339.out 0; have hfz138_1 := blk_frozen BK339.out 1; have hfz138_2 := blk_frozen BK339.out 2; have hfz138_3 := blk_frozen BK339.out 3; have hcz139_0 : w137.cell? ⟨gb340, 0, none⟩ = some (.bool t348) := (blk_cell BK340.out 0).trans rfl; have hcz139_1 : w137.cell? ⟨gb340, 1, none⟩ = some (.slice Ao133 t349.length co133) := (blk_cell BK340.out 1).trans rfl; have hcz139_2 : w137.cell? ⟨gb340, 2, none⟩ = some (.int .i64 t352) := (blk_cell BK340.out 2).trans rfl; have hcz139_3 : w137.cell? ⟨gb340, 3, none⟩ = some (.int .i64 t353) := (blk_cell BK340.out 3).trans rfl; have hfz139_0 := blk_frozen BK340.out 0; have hfz139_1 := blk_frozen BK340.out 1; have hfz139_2 := blk_frozen BK340.out 2; have hfz139_3 := blk_frozen BK340.out 3) | ((with_reducible refine gate_callee (f := 19) rfl ?_); refine goesL_ (some 54) rfl rfl Tryd.func19 (by kernel_rfl) rfl #[.agg #[.bool t342, .slice Ao128 t343.length co128, .int .i64 t346, .int .i64 t347], .agg #[.bool t348, .slice Ao133 t349.length co133, .int .i64 t352, .int .i64 t353]] rfl (by (try simp only [List.map_toArray, List.map_cons, List.map_nil]); first | done | rfl | (simp only [List.length_drop, List.length_take]; rfl)) ?_; (with_reducible refine (exact_Cmp.calls k t342 _ _ t343 t346 t347 t348 _ _ t349 t352 t353 t360 _ ?side1 ?side2 ?side3 ?side4 A12.out).mono ?_); (case side1 => repeat (first | exact (Kd.V_reads' HO345.out).2.2 | (with_reducible refine Kd.C_alloc ?_ _) | (with_reducible refine Kd.C_drewN ?_ _) | (with_reducible refine Kd.C_drew ?_))); (case side2 => exact (Kd.V_reads' HO345.out).2.1); (case side3 => repeat (first | exact (Kd.V_reads' HO351.out).2.2 | (with_reducible refine Kd.C_alloc ?_ _) | (with_reducible refine Kd.C_drewN ?_ _) | (with_reducible refine Kd.C_drew ?_))); (case side4 => exact (Kd.V_reads' HO351.out).2.1); rintro e w140 ⟨rfl, hb⟩; refine ⟨_, rfl, ?_⟩; have n0_ := Aside0.mk (Kd.V_below (by (with_reducible repeat (first | apply Kd.V_alloc | apply Kd.V_drewN | apply Kd.V_drew)); exact HO345.out) hb); have n1_ := Aside0.mk (Kd.V_below (by (with_reducible repeat (first | apply Kd.V_alloc | apply Kd.V_drewN | apply Kd.V_drew)); exact HO351.out) hb); have n2_ := Aside0.mk (blk_below (g := gb339) (o := .cells #[.bool t342, .slice Ao128 t343.length co128, .int .i64 t346, .int .i64 t347] 25 (0, 0)) (by (with_reducible repeat (first | refine blk_drewN ?_ _ | refine blk_drew ?_ | refine blk_alloc ?_ _)); exact BK339.out) hb); have n3_ := Aside0.mk (blk_below (g := gb340) (o := .cells #[.bool t348, .slice Ao133 t349.length co133, .int .i64 t352, .int .i64 t353] 25 (0, 0)) (by (with_reducible repeat (first | refine blk_drewN ?_ _ | refine blk_drew ?_ | refine blk_alloc ?_ _)); exact BK340.out) hb); have n4_ := Aside0.mk (below_step (by repeat (first | (with_reducible first | exact HB.out | apply below_alloc | apply pw_below_drewN | apply below_drew1 | refine below_set ?_ GE339.out | refine below_set ?_ GE340.out) | exact HB.out)) hb); clear HO345; clear HO351; clear BK339; clear BK340; clear HB; have HO345 := n0_; have HO351 := n1_; have BK339 := n2_; have BK340 := n3_; have HB := n4_; clear n0_ n1_ n2_ n3_ n4_; (try clear hb); (try clear hb2); (try clear hk); (try clear hi)))
    go_ret
    exact ⟨by first | rfl | (simp [errW_none, errW_some] <;> rfl) | (simp [*, errW_none, errW_some] <;> rfl), by repeat (first | (with_reducible first | exact HB.out | apply below_alloc | apply pw_below_drewN | apply below_drew1 | refine below_set ?_ GE339.out | refine below_set ?_ GE340.out) | exact HB.out)⟩

end Go.Proofs.YtmcodbgbjjldnaaDoor.Pr
