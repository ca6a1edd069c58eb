import Derived.Test.YtmcodbgbjjldnaaDoorPrx0
import Derived.Test.YtmcodbgbjjldnaaDoorPrx3
import Derived.Test.YtmcodbgbjjldnaaDoorPrx13
import Derived.Test.YtmcodbgbjjldnaaDoorGivA
import Derived.Test.YtmcodbgbjjldnaaDoorGivD
import Derived.Test.YtmcodbgbjjldnaaDoorGivF
import Derived.Test.YtmcodbgbjjldnaaDoorGivS
namespace Go.Proofs.YtmcodbgbjjldnaaDoor.Pr
open Go.RowKit Go.Proofs.YtmcodbgbjjldnaaDoorW.PrintWords Go.Proofs.YtmcodbgbjjldnaaDoorW.PrintLast Go.Proofs.YtmcodbgbjjldnaaDoorW.PrintMore
attribute [local go_sem] max2_int min2_int max_two min_two max_three min_three max_four min_four   -- for this text's walks alone
set_option linter.unusedVariables false
set_option linter.unusedSimpArgs false

mutual
def caliperlaw08_RoundTies.j0 : Nat → Int → Int → Bool → Int → Bool → Bool → List Int → Int → Int → Option (Bool)
  | 0, _, _, _, _, _, _, _, _, _ => none
  | k + 1, x0, x1, x5, x11, x47, x373000, x373001, x373002, x373003 => if x47 = true then (some false) else (if x1 > x11 then (some x5) else ((round_Nearest.f k x0 false x373000 x373001 x373002 x373003).bind fun bt375 => (if (Int.tmod x1 2) = 0 then ((forms_Of.f x0).bind fun bt378 => (if x1 = 0 then (caliperlaw08_RoundTies.j1 k x5 bt375.1 bt375.2.1 bt375.2.2 x1 (bt378.1 == 1)) else (caliperlaw08_RoundTies.j1 k x5 bt375.1 bt375.2.1 bt375.2.2 x1 false))) else (if x1 = x11 then (if x5 = true then (if bt375.2.2 = 0 then (if bt375.1 = x11 then (some bt375.2.1) else (some false)) else (some false)) else (some false)) else (if x5 = true then (if bt375.2.2 = 0 then (if bt375.1 = (IntKind.u64.wrap (x1 + 1)) then (some (!bt375.2.1)) else (some false)) else (some false)) else (some false))))))
def caliperlaw08_RoundTies.j1 : Nat → Bool → Int → Bool → Int → Int → Bool → Option (Bool)
  | 0, _, _, _, _, _, _ => none
  | k + 1, x5, x13, x14, x15, x18, x74 => if x74 = true then (if x5 = true then (if x15 = 0 then (if x13 = 1 then (some (!x14)) else (some false)) else (some false)) else (some false)) else (if x5 = true then (if x15 = 0 then (if x13 = x18 then (some (!x14)) else (some false)) else (some false)) else (some false))
end
def caliperlaw08_RoundTies.f (k : Nat) (a0 : Int) (a1 : Int) : Option (Bool) := (caliperlaw08_shown.f).bind fun t361 => ((value_Between.f a0 a1).bind fun bt362 => (if bt362.2.2 = 0 then ((exact_Of.f 2 false bt362.1 bt362.2.1).bind fun bt365 => ((value_Most.f a0 false).bind fun bt373 => (if bt365.2.2.2.2 = true then (caliperlaw08_RoundTies.j0 k a0 a1 t361 bt373.1 (bt373.2 != 0) bt365.1 bt365.2.1 bt365.2.2.1 bt365.2.2.2.1) else (caliperlaw08_RoundTies.j0 k a0 a1 t361 bt373.1 true bt365.1 bt365.2.1 bt365.2.2.1 bt365.2.2.2.1)))) else (some t361)))
set_option maxHeartbeats 8000000 in
set_option maxRecDepth 100000 in
theorem caliperlaw08_RoundTies.calls (k : Nat) (a0 : Int) (a1 : Int) (r : Bool) (w : World) (hG : Glob w) (h : caliperlaw08_RoundTies.f k a0 a1 = some r) :
    Calls Tryd.prog 5 #[.int .i64 a0, .int .u64 a1] w fun e w' => e = .returned (.bool r) ∧ Below w.heap.size w w' := by
  have hu50 := Tryd.underlying50
  have hu25 := Tryd.underlying25
  have hu51 := Tryd.underlying51
  have HG := Aside0.mk hG
  clear hG
  have HB := Aside0.mk (Below.refl w.heap.size w)
  have H : ((caliperlaw08_shown.f).bind fun t361 => ((value_Between.f a0 a1).bind fun bt362 => (if bt362.2.2 = 0 then ((exact_Of.f 2 false bt362.1 bt362.2.1).bind fun bt365 => ((value_Most.f a0 false).bind fun bt373 => (if bt365.2.2.2.2 = true then (caliperlaw08_RoundTies.j0 k a0 a1 t361 bt373.1 (bt373.2 != 0) bt365.1 bt365.2.1 bt365.2.2.1 bt365.2.2.2.1) else (caliperlaw08_RoundTies.j0 k a0 a1 t361 bt373.1 true bt365.1 bt365.2.1 bt365.2.2.1 bt365.2.2.2.1)))) else (some t361)))) = some r := h
  clear h
  replace H := Option.bind_eq_some_iff.mp H
  obtain ⟨t361, A30, H⟩ := H
  replace H : ((value_Between.f a0 a1).bind fun bt362 => (if bt362.2.2 = 0 then ((exact_Of.f 2 false bt362.1 bt362.2.1).bind fun bt365 => ((value_Most.f a0 false).bind fun bt373 => (if bt365.2.2.2.2 = true then (caliperlaw08_RoundTies.j0 k a0 a1 t361 bt373.1 (bt373.2 != 0) bt365.1 bt365.2.1 bt365.2.2.1 bt365.2.2.2.1) else (caliperlaw08_RoundTies.j0 k a0 a1 t361 bt373.1 true bt365.1 bt365.2.1 bt365.2.2.1 bt365.2.2.2.1)))) else (some t361))) = some r := H
  have A3 := Aside0.mk A30
  clear A30
  replace H := Option.bind_eq_some_iff.mp H
  obtain ⟨⟨t362, t363, t364⟩, A40, H⟩ := H
  replace H : (if t364 = 0 then ((exact_Of.f 2 false t362 t363).bind fun bt365 => ((value_Most.f a0 false).bind fun bt373 => (if bt365.2.2.2.2 = true then (caliperlaw08_RoundTies.j0 k a0 a1 t361 bt373.1 (bt373.2 != 0) bt365.1 bt365.2.1 bt365.2.2.1 bt365.2.2.2.1) else (caliperlaw08_RoundTies.j0 k a0 a1 t361 bt373.1 true bt365.1 bt365.2.1 bt365.2.2.1 bt365.2.2.2.1)))) else (some t361)) = some r := H
  have A4 := Aside0.mk A40
  clear A40
  by_cases c5 : t364 = 0
  · rw [if_pos c5] at H
    have c5b0 : (t364 == 0) = true := beq_iff_eq.mpr c5
    have c5b1 : (t364 != 0) = false := bne_eq_false_iff_eq.mpr c5
    clear c5
    replace H := Option.bind_eq_some_iff.mp H
    obtain ⟨⟨t365, t366, t369, t370, t371⟩, A60, H⟩ := H
    replace H : ((value_Most.f a0 false).bind fun bt373 => (if t371 = true then (caliperlaw08_RoundTies.j0 k a0 a1 t361 bt373.1 (bt373.2 != 0) t365 t366 t369 t370) else (caliperlaw08_RoundTies.j0 k a0 a1 t361 bt373.1 true t365 t366 t369 t370))) = some r := H
    have A6 := Aside0.mk A60
    clear A60
    replace H := Option.bind_eq_some_iff.mp H
    obtain ⟨⟨t373, t374⟩, A70, H⟩ := H
    replace H : (if t371 = true then (caliperlaw08_RoundTies.j0 k a0 a1 t361 t373 (t374 != 0) t365 t366 t369 t370) else (caliperlaw08_RoundTies.j0 k a0 a1 t361 t373 true t365 t366 t369 t370)) = some r := H
    have A7 := Aside0.mk A70
    clear A70
    have HC8 := Aside0.mk H
    clear H
    go_enter Tryd.func5, Tryd.ntmps5
    go_upto_region 7 with (first | ((with_reducible refine gate_callee (f := 11) rfl ?_); refine goesL_ (some 19) rfl rfl Tryd.func11 (by kernel_rfl) rfl #[] rfl (by (try simp only [List.map_toArray, List.map_cons, List.map_nil]); first | done | rfl | (simp only [List.length_drop, List.length_take]; rfl)) ?_; (with_reducible refine (caliperlaw08_shown.calls  t361 _ ?side1 A3.out).mono ?_); (case side1 => exact Glob.below HG.out (by repeat (first | (with_reducible first | exact HB.out | apply below_alloc | apply pw_below_drewN | apply below_drew1) | exact HB.out))); rintro e w9 ⟨rfl, hb⟩; refine ⟨_, rfl, ?_⟩; have n0_ := Aside0.mk (below_step (by repeat (first | (with_reducible first | exact HB.out | apply below_alloc | apply pw_below_drewN | apply below_drew1) | exact HB.out)) hb); clear HB; have HB := n0_; clear n0_; (try clear hb); (try clear hb2); (try clear hk); (try clear hi)) | ((with_reducible refine gate_callee (f := 20) rfl ?_); refine goesL_ (some 23) rfl rfl Tryd.func20 (by kernel_rfl) rfl #[.int .i64 a0, .int .u64 a1] rfl (by (try simp only [List.map_toArray, List.map_cons, List.map_nil]); first | done | rfl | (simp only [List.length_drop, List.length_take]; rfl)) ?_; (with_reducible refine (value_Between.calls a0 a1 t362 t363 t364 _ ?side1 A4.out).mono ?_); (case side1 => exact Glob.below HG.out (by repeat (first | (with_reducible first | exact HB.out | apply below_alloc | apply pw_below_drewN | apply below_drew1) | exact HB.out))); rintro e w10 ⟨rfl, hb⟩; refine ⟨_, rfl, ?_⟩; have n0_ := Aside0.mk (below_step (by repeat (first | (with_reducible first | exact HB.out | apply below_alloc | apply pw_below_drewN | apply below_drew1) | exact HB.out)) hb); clear HB; have HB := n0_; clear n0_; (try clear hb); (try clear hb2); (try clear hk); (try clear hi)) | ((with_reducible refine gate_callee (f := 21) rfl ?_); refine goesL_ (some 34) rfl rfl Tryd.func21 (by kernel_rfl) rfl #[.agg #[.int .i64 2, .bool false, .int .u64 t362, .int .i64 t363]] rfl (by (try simp only [List.map_toArray, List.map_cons, List.map_nil]); first | done | rfl | (simp only [List.length_drop, List.length_take]; rfl)) ?_; (with_reducible refine (exact_Of.calls 2 false t362 t363 t365 t366 t369 t370 t371 _ A6.out).mono ?_); rintro e w11 ⟨v367, rfl, ho0, hb⟩; refine ⟨_, rfl, ?_⟩; have n0_ := Aside0.mk (Kd.V_lower (Kd.V_mono (ok' := fun k_ => True) ho0 (fun k_ hk_ => trivial)) (below_size (by repeat (first | (with_reducible first | exact HB.out | apply below_alloc | apply pw_below_drewN | apply below_drew1) | exact HB.out)))); have n1_ := Aside0.mk (below_step (by repeat (first | (with_reducible first | exact HB.out | apply below_alloc | apply pw_below_drewN | apply below_drew1) | exact HB.out)) hb); clear HB; have HO368 := n0_; have HB := n1_; clear n0_ n1_; (try clear hb); (try clear hb2); (try clear hk); (try clear hi); (try clear ho0)) | ((with_reducible refine gate_dst (N := 9) rfl ?_); refine box_event ?hg (N := 9) ?hd (cs := #[.bool false, .slice none 0 0, .int .i64 0, .int .i64 0]) (t := 25) ?hr ?_; (case hd => rfl); (case hg => rfl); (case hr => first | (go_simp; done) | (go_simp; rfl)); intro gb372 hg w12 hbox hb; have n0_ := Aside0.mk (Kd.V_below (Kd.V_elderB (by (with_reducible repeat (first | apply Kd.V_alloc | apply Kd.V_drewN | apply Kd.V_drew)); exact HO368.out) gb372 (Nat.le_of_eq hg.symm)) hb); have n1_ := Aside0.mk (below_step (by repeat (first | (with_reducible first | exact HB.out | apply below_alloc | apply pw_below_drewN | apply below_drew1) | exact HB.out)) hb); have n2_ := Aside0.mk (hbox); have n3_ := Aside0.mk ((by rw [hg]; exact (below_size (by repeat (first | (with_reducible first | exact HB.out | apply below_alloc | apply pw_below_drewN | apply below_drew1) | exact HB.out))) : w.heap.size ≤ gb372)); have n4_ := Aside0.mk ((by rw [hg]; exact (below_size (by repeat (first | (with_reducible first | exact HB.out | apply below_alloc | apply pw_below_drewN | apply below_drew1) | exact HB.out))) : w.heap.size ≤ gb372)); clear HO368; clear HB; have HO368 := n0_; have HB := n1_; have BK372 := n2_; have GW372 := n3_; have GE372 := n4_; clear n0_ n1_ n2_ n3_ n4_; clear hb hbox hg; have hcz13_0 : w12.cell? ⟨gb372, 0, none⟩ = some (.bool false) := (blk_cell BK372.out 0).trans rfl; have hcz13_1 : w12.cell? ⟨gb372, 1, none⟩ = some (.slice none 0 0) := (blk_cell BK372.out 1).trans rfl; have hcz13_2 : w12.cell? ⟨gb372, 2, none⟩ = some (.int .i64 0) := (blk_cell BK372.out 2).trans rfl; have hcz13_3 : w12.cell? ⟨gb372, 3, none⟩ = some (.int .i64 0) := (blk_cell BK372.out 3).trans rfl; have hfz13_0 := blk_frozen BK372.out 0; have hfz13_1 := blk_frozen BK372.out 1; have hfz13_2 := blk_frozen BK372.out 2; have hfz13_3 := blk_frozen BK372.out 3; obtain ⟨Ao14, co14, eo14⟩ := Kd.V_slice HO368.out; subst eo14) | ((with_reducible refine gate_callee (f := 22) rfl ?_); refine goesL_ (some 39) rfl rfl Tryd.func22 (by kernel_rfl) rfl #[.int .i64 a0, .bool false] rfl (by (try simp only [List.map_toArray, List.map_cons, List.map_nil]); first | done | rfl | (simp only [List.length_drop, List.length_take]; rfl)) ?_; (with_reducible refine (value_Most.calls a0 false t373 t374 _ ?side1 A7.out).mono ?_); (case side1 => exact Glob.below HG.out (by repeat (first | (with_reducible first | exact HB.out | apply below_alloc | apply pw_below_drewN | apply below_drew1 | refine below_set ?_ GE372.out) | exact HB.out))); rintro e w15 ⟨rfl, hb⟩; refine ⟨_, rfl, ?_⟩; have n0_ := Aside0.mk (Kd.V_below (by (with_reducible repeat (first | apply Kd.V_alloc | apply Kd.V_drewN | apply Kd.V_drew)); exact (Kd.V_mono (Kd.V_far (p := ⟨gb372, 3, none⟩) (Kd.V_far (p := ⟨gb372, 2, none⟩) (Kd.V_far (p := ⟨gb372, 1, none⟩) (Kd.V_far (p := ⟨gb372, 0, none⟩) (Kd.V_mono HO368.out (fun k_ hk => (⟨hk, hk.2⟩ : _ ∧ k_ ≠ gb372))) (fun _ hk => hk.2) (.bool t365)) (fun _ hk => hk.2) (.slice Ao14 t366.length co14)) (fun _ hk => hk.2) (.int .i64 t369)) (fun _ hk => hk.2) (.int .i64 t370)) (fun _ h_ => h_.1))) hb); have n1_ := Aside0.mk (blk_below (g := gb372) (o := .cells #[.bool t365, .slice Ao14 t366.length co14, .int .i64 t369, .int .i64 t370] 25 (0, 0)) (by (with_reducible repeat (first | refine blk_drewN ?_ _ | refine blk_drew ?_ | refine blk_alloc ?_ _)); refine blk_put (cs := #[.bool t365, .slice Ao14 t366.length co14, .int .i64 t369, .int .i64 0]) ?_ 3 _ rfl; (with_reducible repeat (first | refine blk_drewN ?_ _ | refine blk_drew ?_ | refine blk_alloc ?_ _)); refine blk_put (cs := #[.bool t365, .slice Ao14 t366.length co14, .int .i64 0, .int .i64 0]) ?_ 2 _ rfl; (with_reducible repeat (first | refine blk_drewN ?_ _ | refine blk_drew ?_ | refine blk_alloc ?_ _)); refine blk_put (cs := #[.bool t365, .slice none 0 0, .int .i64 0, .int .i64 0]) ?_ 1 _ rfl; (with_reducible repeat (first | refine blk_drewN ?_ _ | refine blk_drew ?_ | refine blk_alloc ?_ _)); refine blk_put (cs := #[.bool false, .slice none 0 0, .int .i64 0, .int .i64 0]) ?_ 0 _ rfl; (with_reducible repeat (first | refine blk_drewN ?_ _ | refine blk_drew ?_ | refine blk_alloc ?_ _)); exact BK372.out) hb); have n2_ := Aside0.mk (below_step (by repeat (first | (with_reducible first | exact HB.out | apply below_alloc | apply pw_below_drewN | apply below_drew1 | refine below_set ?_ GE372.out) | exact HB.out)) hb); clear HO368; clear BK372; clear HB; have HO368 := n0_; have BK372 := n1_; have HB := n2_; clear n0_ n1_ n2_; (try clear hb); (try clear hb2); (try clear hk); (try clear hi)))
    (try simp only [Act.put, List.setIfInBounds_toArray, List.set_cons_zero, List.set_cons_succ])
    go_cut [47] (fun v47 wc => ∃ (kq : Nat) (x47_7 : Bool), v47 = .bool x47_7 ∧ Aside0 (caliperlaw08_RoundTies.j0 kq a0 a1 t361 t373 x47_7 t365 t366 t369 t370 = some r) ∧ Aside0 (kq ≤ k) ∧ Aside0 (Kd.V (Kd.int .u64) 28 wc w.heap.size (fun k_ => k_ ≠ gb372) (.slice Ao14 t366.length co14) t366) ∧ Aside0 (wc.heap[gb372]? = some (.cells #[.bool t365, (.slice Ao14 t366.length co14), .int .i64 t369, .int .i64 t370] 25 (0, 0))) ∧ Aside0 (Below w.heap.size w wc))
    case first =>
      have H := HC8.out
      clear HC8
      by_cases c16 : t371 = true
      · subst c16
        have H1 : (caliperlaw08_RoundTies.j0 k a0 a1 t361 t373 (t374 != 0) t365 t366 t369 t370) = some r := by rw [if_pos rfl] at H; exact H
        clear H
        have H := H1
        clear H1
        have H' := Aside0.mk H
        clear H
        go_wp2
        go_meet
        case rel => exact ⟨_, ((t374 != 0)), (by first | rfl | (simp; done) | (simp [*]; done)), H', ⟨by first | omega | exact Nat.le_refl _⟩, ⟨by (with_reducible repeat (first | apply Kd.V_alloc | apply Kd.V_drewN | apply Kd.V_drew)); exact Kd.V_mono HO368.out (fun _ hk => hk.2)⟩, ⟨by (with_reducible repeat (first | refine blk_drewN ?_ _ | refine blk_drew ?_ | refine blk_alloc ?_ _)); exact BK372.out⟩, ⟨by repeat (first | (with_reducible first | exact HB.out | apply below_alloc | apply pw_below_drewN | apply below_drew1 | refine below_set ?_ GE372.out) | exact HB.out)⟩⟩
      · replace c16 := Bool.eq_false_iff.mpr c16
        subst c16
        have H1 : (caliperlaw08_RoundTies.j0 k a0 a1 t361 t373 true t365 t366 t369 t370) = some r := by rw [if_neg (show ¬ (false = true) by decide)] at H; exact H
        clear H
        have H := H1
        clear H1
        have H' := Aside0.mk H
        clear H
        go_wp2
        go_meet
        case rel => exact ⟨_, (true), (by first | rfl | (simp; done) | (simp [*]; done)), H', ⟨by first | omega | exact Nat.le_refl _⟩, ⟨by (with_reducible repeat (first | apply Kd.V_alloc | apply Kd.V_drewN | apply Kd.V_drew)); exact Kd.V_mono HO368.out (fun _ hk => hk.2)⟩, ⟨by (with_reducible repeat (first | refine blk_drewN ?_ _ | refine blk_drew ?_ | refine blk_alloc ?_ _)); exact BK372.out⟩, ⟨by repeat (first | (with_reducible first | exact HB.out | apply below_alloc | apply pw_below_drewN | apply below_drew1 | refine below_set ?_ GE372.out) | exact HB.out)⟩⟩
    case rest =>
      clear HC8
      try clear c1
      try clear c2
      try clear p2
      try clear c5
      try clear c5b0
      try clear c5b1
      try clear c11
      try clear c16
      try clear hcz13_0
      try clear hcz13_1
      try clear hcz13_2
      try clear hcz13_3
      try clear hfz13_0
      try clear hfz13_1
      try clear hfz13_2
      try clear hfz13_3
      obtain ⟨kq, x47_7, rfl, HA, HJ7, HO_373001, BK372, HB⟩ := hcut
      cases kq with
      | zero => exact absurd HA.out (by simp [caliperlaw08_RoundTies.j0])
      | succ kj7 =>
        have H := HA.out
        clear HA
        simp only [caliperlaw08_RoundTies.j0] at H
        by_cases c17 : x47_7 = true
        · subst c17
          have H1 : (some false) = some r := by rw [if_pos rfl] at H; exact H
          clear H
          have H := H1
          clear H1
          obtain rfl := Option.some.inj H
          go_wp2
          go_ret
          exact ⟨by first | rfl | (simp [errW_none, errW_some] <;> rfl) | (simp [*, errW_none, errW_some] <;> rfl), by repeat (first | (with_reducible first | exact HB.out | apply below_alloc | apply pw_below_drewN | apply below_drew1 | refine below_set ?_ GE372.out) | exact HB.out)⟩
        · replace c17 := Bool.eq_false_iff.mpr c17
          subst c17
          have H1 : (if a1 > t373 then (some t361) else ((round_Nearest.f kj7 a0 false t365 t366 t369 t370).bind fun bt375 => (if (Int.tmod a1 2) = 0 then ((forms_Of.f a0).bind fun bt378 => (if a1 = 0 then (caliperlaw08_RoundTies.j1 kj7 t361 bt375.1 bt375.2.1 bt375.2.2 a1 (bt378.1 == 1)) else (caliperlaw08_RoundTies.j1 kj7 t361 bt375.1 bt375.2.1 bt375.2.2 a1 false))) else (if a1 = t373 then (if t361 = true then (if bt375.2.2 = 0 then (if bt375.1 = t373 then (some bt375.2.1) else (some false)) else (some false)) else (some false)) else (if t361 = true then (if bt375.2.2 = 0 then (if bt375.1 = (IntKind.u64.wrap (a1 + 1)) then (some (!bt375.2.1)) else (some false)) else (some false)) else (some false)))))) = some r := by rw [if_neg (show ¬ (false = true) by decide)] at H; exact H
          clear H
          have H := H1
          clear H1
          by_cases c18 : a1 > t373
          · rw [if_pos c18] at H
            have c18b0 : decide (t373 < a1) = true := decide_eq_true c18
            clear c18
            obtain rfl := Option.some.inj H
            go_wp2
            go_ret
            exact ⟨by first | rfl | (simp [errW_none, errW_some] <;> rfl) | (simp [*, errW_none, errW_some] <;> rfl), by repeat (first | (with_reducible first | exact HB.out | apply below_alloc | apply pw_below_drewN | apply below_drew1 | refine below_set ?_ GE372.out) | exact HB.out)⟩
          · rw [if_neg c18] at H
            have c18b0 : decide (t373 < a1) = false := decide_eq_false c18
            clear c18
            replace H := Option.bind_eq_some_iff.mp H
            obtain ⟨⟨t375, t376, t377⟩, A190, H⟩ := H
            replace H : (if (Int.tmod a1 2) = 0 then ((forms_Of.f a0).bind fun bt378 => (if a1 = 0 then (caliperlaw08_RoundTies.j1 kj7 t361 t375 t376 t377 a1 (bt378.1 == 1)) else (caliperlaw08_RoundTies.j1 kj7 t361 t375 t376 t377 a1 false))) else (if a1 = t373 then (if t361 = true then (if t377 = 0 then (if t375 = t373 then (some t376) else (some false)) else (some false)) else (some false)) else (if t361 = true then (if t377 = 0 then (if t375 = (IntKind.u64.wrap (a1 + 1)) then (some (!t376)) else (some false)) else (some false)) else (some false)))) = some r := H
            have A19 := Aside0.mk A190
            clear A190
            by_cases c20 : (Int.tmod a1 2) = 0
            · rw [if_pos c20] at H
              have c20b0 : ((Int.tmod a1 2) == 0) = true := beq_iff_eq.mpr c20
              have c20b1 : ((Int.tmod a1 2) != 0) = false := bne_eq_false_iff_eq.mpr c20
              clear c20
              replace H := Option.bind_eq_some_iff.mp H
              obtain ⟨⟨t378, t379, t380, t381, t382, t383, t384, t385⟩, A210, H⟩ := H
              replace H : (if a1 = 0 then (caliperlaw08_RoundTies.j1 kj7 t361 t375 t376 t377 a1 (t378 == 1)) else (caliperlaw08_RoundTies.j1 kj7 t361 t375 t376 t377 a1 false)) = some r := H
              have A21 := Aside0.mk A210
              clear A210
              have HC22 := Aside0.mk H
              clear H
              have hcz23_0 : wc.cell? ⟨gb372, 0, none⟩ = some (.bool t365) := (blk_cell BK372.out 0).trans rfl
              have hcz23_1 : wc.cell? ⟨gb372, 1, none⟩ = some (.slice Ao14 t366.length co14) := (blk_cell BK372.out 1).trans rfl
              have hcz23_2 : wc.cell? ⟨gb372, 2, none⟩ = some (.int .i64 t369) := (blk_cell BK372.out 2).trans rfl
              have hcz23_3 : wc.cell? ⟨gb372, 3, none⟩ = some (.int .i64 t370) := (blk_cell BK372.out 3).trans rfl
              have hfz23_0 := blk_frozen BK372.out 0
              have hfz23_1 := blk_frozen BK372.out 1
              have hfz23_2 := blk_frozen BK372.out 2
              have hfz23_3 := blk_frozen BK372.out 3
              go_upto_region 15 with (first | ((with_reducible refine gate_callee (f := 14) rfl ?_); refine goesL_ (some 55) rfl rfl Tryd.func14 (by kernel_rfl) rfl #[.int .i64 a0, .bool false, .agg #[.bool t365, .slice Ao14 t366.length co14, .int .i64 t369, .int .i64 t370]] rfl (by (try simp only [List.map_toArray, List.map_cons, List.map_nil]); first | done | rfl | (simp only [List.length_drop, List.length_take]; rfl)) ?_; (with_reducible refine (round_Nearest.calls kj7 a0 false t365 _ _ t366 t369 t370 t375 t376 t377 _ ?side3 ?side1 ?side2 A19.out).mono ?_); (case side1 => repeat (first | exact (Kd.V_reads' HO_373001.out).2.2 | (with_reducible refine Kd.C_alloc ?_ _) | (with_reducible refine Kd.C_drewN ?_ _) | (with_reducible refine Kd.C_drew ?_))); (case side2 => exact (Kd.V_reads' HO_373001.out).2.1); (case side3 => exact Glob.below HG.out (by repeat (first | (with_reducible first | exact HB.out | apply below_alloc | apply pw_below_drewN | apply below_drew1 | refine below_set ?_ GE372.out) | exact HB.out))); rintro e w24 ⟨rfl, hb⟩; refine ⟨_, rfl, ?_⟩; have n0_ := Aside0.mk (Kd.V_below (by (with_reducible repeat (first | apply Kd.V_alloc | apply Kd.V_drewN | apply Kd.V_drew)); exact HO_373001.out) hb); have n1_ := Aside0.mk (blk_below (g := gb372) (o := .cells #[.bool t365, .slice Ao14 t366.length co14, .int .i64 t369, .int .i64 t370] 25 (0, 0)) (by (with_reducible repeat (first | refine blk_drewN ?_ _ | refine blk_drew ?_ | refine blk_alloc ?_ _)); exact BK372.out) hb); have n2_ := Aside0.mk (below_step (by repeat (first | (with_reducible first | exact HB.out | apply below_alloc | apply pw_below_drewN | apply below_drew1 | refine below_set ?_ GE372.out) | exact HB.out)) hb); clear HO_373001; clear BK372; clear HB; have HO_373001 := n0_; have BK372 := n1_; have HB := n2_; clear n0_ n1_ n2_; (try clear hb); (try clear hb2); (try clear hk); (try clear hi)) | ((with_reducible refine gate_callee (f := 23) rfl ?_); refine goesL_ (some 64) rfl rfl Tryd.func23 (by kernel_rfl) rfl #[.int .i64 a0] rfl (by (try simp only [List.map_toArray, List.map_cons, List.map_nil]); first | done | rfl | (simp only [List.length_drop, List.length_take]; rfl)) ?_; (with_reducible refine (forms_Of.calls a0 t378 t379 t380 t381 t382 t383 t384 t385 _ ?side1 A21.out).mono ?_); (case side1 => exact Glob.below HG.out (by repeat (first | (with_reducible first | exact HB.out | apply below_alloc | apply pw_below_drewN | apply below_drew1 | refine below_set ?_ GE372.out) | exact HB.out))); rintro e w25 ⟨rfl, hb⟩; refine ⟨_, rfl, ?_⟩; have n0_ := Aside0.mk (Kd.V_below (by (with_reducible repeat (first | apply Kd.V_alloc | apply Kd.V_drewN | apply Kd.V_drew)); exact HO_373001.out) hb); have n1_ := Aside0.mk (blk_below (g := gb372) (o := .cells #[.bool t365, .slice Ao14 t366.length co14, .int .i64 t369, .int .i64 t370] 25 (0, 0)) (by (with_reducible repeat (first | refine blk_drewN ?_ _ | refine blk_drew ?_ | refine blk_alloc ?_ _)); exact BK372.out) hb); have n2_ := Aside0.mk (below_step (by repeat (first | (with_reducible first | exact HB.out | apply below_alloc | apply pw_below_drewN | apply below_drew1 | refine below_set ?_ GE372.out) | exact HB.out)) hb); clear HO_373001; clear BK372; clear HB; have HO_373001 := n0_; have BK372 := n1_; have HB := n2_; clear n0_ n1_ n2_; (try clear hb); (try clear hb2); (try clear hk); (try clear hi)) | ((with_reducible refine gate_dst (N := 16) rfl ?_); refine box_event ?hg (N := 16) ?hd (cs := #[.int .i64 0, .int .i64 0, .int .i64 0, .int .i64 0, .int .u64 0, .int .u64 0, .int .u64 0]) (t := 51) ?hr ?_; (case hd => rfl); (case hg => rfl); (case hr => first | (go_simp; done) | (go_simp; rfl)); intro gb386 hg w26 hbox hb; have n0_ := Aside0.mk (Kd.V_below (Kd.V_elderB (by (with_reducible repeat (first | apply Kd.V_alloc | apply Kd.V_drewN | apply Kd.V_drew)); exact HO_373001.out) gb386 (Nat.le_of_eq hg.symm)) hb); have n1_ := Aside0.mk (blk_below (g := gb372) (o := .cells #[.bool t365, .slice Ao14 t366.length co14, .int .i64 t369, .int .i64 t370] 25 (0, 0)) (by (with_reducible repeat (first | refine blk_drewN ?_ _ | refine blk_drew ?_ | refine blk_alloc ?_ _)); exact BK372.out) hb); have n2_ := Aside0.mk (below_step (by repeat (first | (with_reducible first | exact HB.out | apply below_alloc | apply pw_below_drewN | apply below_drew1 | refine below_set ?_ GE372.out) | exact HB.out)) hb); have n3_ := Aside0.mk (hbox); have n4_ := Aside0.mk ((by rw [hg]; exact (below_size (by repeat (first | (with_reducible first | exact HB.out | apply below_alloc | apply pw_below_drewN | apply below_drew1 | refine below_set ?_ GE372.out) | exact HB.out))) : w.heap.size ≤ gb386)); have n5_ := Aside0.mk ((by rw [hg]; exact (below_size (by repeat (first | (with_reducible first | exact HB.out | apply below_alloc | apply pw_below_drewN | apply below_drew1 | refine below_set ?_ GE372.out) | exact HB.out))) : w.heap.size ≤ gb386)); have n6_ := Aside0.mk ((by rw [hg]; exact Nat.ne_of_lt (blk_lt (g := gb372) (o := .cells #[.bool t365, .slice Ao14 t366.length co14, .int .i64 t369, .int .i64 t370] 25 (0, 0)) (by (with_reducible repeat (first | refine blk_drewN ?_ _ | refine blk_drew ?_ | refine blk_alloc ?_ _)); exact BK372.out)) : gb372 ≠ gb386)); have n7_ := Aside0.mk ((by rw [hg]; exact Nat.ne_of_gt (blk_lt (g := gb372) (o := .cells #[.bool t365, .slice Ao14 t366.length co14, .int .i64 t369, .int .i64 t370] 25 (0, 0)) (by (with_reducible repeat (first | refine blk_drewN ?_ _ | refine blk_drew ?_ | refine blk_alloc ?_ _)); exact BK372.out)) : gb386 ≠ gb372)); clear HO_373001; clear BK372; clear HB; have HO_373001 := n0_; have BK372 := n1_; have HB := n2_; have BK386 := n3_; have GW386 := n4_; have GE386 := n5_; have NB372_386 := n6_; have NB386_372 := n7_; clear n0_ n1_ n2_ n3_ n4_ n5_ n6_ n7_; clear hb hbox hg; have hnb27 := NB386_372.out; have hnc27 := NB372_386.out; have hcz28_0 : w26.cell? ⟨gb386, 0, none⟩ = some (.int .i64 0) := (blk_cell BK386.out 0).trans rfl; have hcz28_1 : w26.cell? ⟨gb386, 1, none⟩ = some (.int .i64 0) := (blk_cell BK386.out 1).trans rfl; have hcz28_2 : w26.cell? ⟨gb386, 2, none⟩ = some (.int .i64 0) := (blk_cell BK386.out 2).trans rfl; have hcz28_3 : w26.cell? ⟨gb386, 3, none⟩ = some (.int .i64 0) := (blk_cell BK386.out 3).trans rfl; have hcz28_4 : w26.cell? ⟨gb386, 4, none⟩ = some (.int .u64 0) := (blk_cell BK386.out 4).trans rfl; have hcz28_5 : w26.cell? ⟨gb386, 5, none⟩ = some (.int .u64 0) := (blk_cell BK386.out 5).trans rfl; have hcz28_6 : w26.cell? ⟨gb386, 6, none⟩ = some (.int .u64 0) := (blk_cell BK386.out 6).trans rfl; have hfz28_0 := blk_frozen BK386.out 0; have hfz28_1 := blk_frozen BK386.out 1; have hfz28_2 := blk_frozen BK386.out 2; have hfz28_3 := blk_frozen BK386.out 3; have hfz28_4 := blk_frozen BK386.out 4; have hfz28_5 := blk_frozen BK386.out 5; have hfz28_6 := blk_frozen BK386.out 6))
              (try simp only [Act.put, List.setIfInBounds_toArray, List.set_cons_zero, List.set_cons_succ])
              go_cut [74] (fun v74 wc => ∃ (kq : Nat) (x74_21 : Bool), v74 = .bool x74_21 ∧ Aside0 (caliperlaw08_RoundTies.j1 kq t361 t375 t376 t377 a1 x74_21 = some r) ∧ Aside0 (kq ≤ kj7) ∧ Aside0 (Kd.V (Kd.int .u64) 28 wc w.heap.size (fun k_ => k_ ≠ gb372 ∧ k_ ≠ gb386) (.slice Ao14 t366.length co14) t366) ∧ Aside0 (wc.heap[gb372]? = some (.cells #[.bool t365, (.slice Ao14 t366.length co14), .int .i64 t369, .int .i64 t370] 25 (0, 0))) ∧ Aside0 (wc.heap[gb386]? = some (.cells #[.int .i64 t378, .int .i64 t379, .int .i64 t380, .int .i64 t381, .int .u64 t382, .int .u64 t383, .int .u64 t384] 51 (0, 0))) ∧ Aside0 (Below w.heap.size w wc))
              case first =>
                have H := HC22.out
                clear HC22
                by_cases c29 : a1 = 0
                · rw [if_pos c29] at H
                  have c29b0 : (a1 == 0) = true := beq_iff_eq.mpr c29
                  have c29b1 : (a1 != 0) = false := bne_eq_false_iff_eq.mpr c29
                  clear c29
                  (first | rw [c29b0] | (simp only [i64_w, i32_w]; rw [c29b0]) | skip)
                  have H' := Aside0.mk H
                  clear H
                  have hnb30 := NB386_372.out
                  have hnc30 := NB372_386.out
                  have hcz31_0 : w26.cell? ⟨gb386, 0, none⟩ = some (.int .i64 0) := (blk_cell BK386.out 0).trans rfl
                  have hcz31_1 : w26.cell? ⟨gb386, 1, none⟩ = some (.int .i64 0) := (blk_cell BK386.out 1).trans rfl
                  have hcz31_2 : w26.cell? ⟨gb386, 2, none⟩ = some (.int .i64 0) := (blk_cell BK386.out 2).trans rfl
                  have hcz31_3 : w26.cell? ⟨gb386, 3, none⟩ = some (.int .i64 0) := (blk_cell BK386.out 3).trans rfl
                  have hcz31_4 : w26.cell? ⟨gb386, 4, none⟩ = some (.int .u64 0) := (blk_cell BK386.out 4).trans rfl
                  have hcz31_5 : w26.cell? ⟨gb386, 5, none⟩ = some (.int .u64 0) := (blk_cell BK386.out 5).trans rfl
                  have hcz31_6 : w26.cell? ⟨gb386, 6, none⟩ = some (.int .u64 0) := (blk_cell BK386.out 6).trans rfl
                  have hfz31_0 := blk_frozen BK386.out 0
                  have hfz31_1 := blk_frozen BK386.out 1
                  have hfz31_2 := blk_frozen BK386.out 2
                  have hfz31_3 := blk_frozen BK386.out 3
                  have hfz31_4 := blk_frozen BK386.out 4
                  have hfz31_5 := blk_frozen BK386.out 5
                  have hfz31_6 := blk_frozen BK386.out 6
                  go_wp2
                  go_meet
                  case rel => exact ⟨_, ((t378 == 1)), (by first | rfl | (simp; done) | (simp [*]; done)), H', ⟨by have := HJ7.out; first | omega | exact Nat.le_refl _⟩, ⟨by (with_reducible repeat (first | apply Kd.V_alloc | apply Kd.V_drewN | apply Kd.V_drew)); exact Kd.V_mono (Kd.V_far (p := ⟨gb386, 6, none⟩) (Kd.V_far (p := ⟨gb386, 5, none⟩) (Kd.V_far (p := ⟨gb386, 4, none⟩) (Kd.V_far (p := ⟨gb386, 3, none⟩) (Kd.V_far (p := ⟨gb386, 2, none⟩) (Kd.V_far (p := ⟨gb386, 1, none⟩) (Kd.V_far (p := ⟨gb386, 0, none⟩) (Kd.V_mono HO_373001.out (fun k_ hk => (⟨hk, hk.2⟩ : _ ∧ k_ ≠ gb386))) (fun _ hk => hk.2) (.int .i64 t378)) (fun _ hk => hk.2) (.int .i64 t379)) (fun _ hk => hk.2) (.int .i64 t380)) (fun _ hk => hk.2) (.int .i64 t381)) (fun _ hk => hk.2) (.int .u64 t382)) (fun _ hk => hk.2) (.int .u64 t383)) (fun _ hk => hk.2) (.int .u64 t384)) (fun _ hk => ⟨hk.1.1, hk.1.2⟩)⟩, ⟨by (with_reducible repeat (first | refine blk_drewN ?_ _ | refine blk_drew ?_ | refine blk_alloc ?_ _)); refine blk_far ?_ NB372_386.out _; (with_reducible repeat (first | refine blk_drewN ?_ _ | refine blk_drew ?_ | refine blk_alloc ?_ _)); refine blk_far ?_ NB372_386.out _; (with_reducible repeat (first | refine blk_drewN ?_ _ | refine blk_drew ?_ | refine blk_alloc ?_ _)); refine blk_far ?_ NB372_386.out _; (with_reducible repeat (first | refine blk_drewN ?_ _ | refine blk_drew ?_ | refine blk_alloc ?_ _)); refine blk_far ?_ NB372_386.out _; (with_reducible repeat (first | refine blk_drewN ?_ _ | refine blk_drew ?_ | refine blk_alloc ?_ _)); refine blk_far ?_ NB372_386.out _; (with_reducible repeat (first | refine blk_drewN ?_ _ | refine blk_drew ?_ | refine blk_alloc ?_ _)); refine blk_far ?_ NB372_386.out _; (with_reducible repeat (first | refine blk_drewN ?_ _ | refine blk_drew ?_ | refine blk_alloc ?_ _)); refine blk_far ?_ NB372_386.out _; (with_reducible repeat (first | refine blk_drewN ?_ _ | refine blk_drew ?_ | refine blk_alloc ?_ _)); exact BK372.out⟩, ⟨by (with_reducible repeat (first | refine blk_drewN ?_ _ | refine blk_drew ?_ | refine blk_alloc ?_ _)); refine blk_put (cs := #[.int .i64 t378, .int .i64 t379, .int .i64 t380, .int .i64 t381, .int .u64 t382, .int .u64 t383, .int .u64 0]) ?_ 6 _ rfl; (with_reducible repeat (first | refine blk_drewN ?_ _ | refine blk_drew ?_ | refine blk_alloc ?_ _)); refine blk_put (cs := #[.int .i64 t378, .int .i64 t379, .int .i64 t380, .int .i64 t381, .int .u64 t382, .int .u64 0, .int .u64 0]) ?_ 5 _ rfl; (with_reducible repeat (first | refine blk_drewN ?_ _ | refine blk_drew ?_ | refine blk_alloc ?_ _)); refine blk_put (cs := #[.int .i64 t378, .int .i64 t379, .int .i64 t380, .int .i64 t381, .int .u64 0, .int .u64 0, .int .u64 0]) ?_ 4 _ rfl; (with_reducible repeat (first | refine blk_drewN ?_ _ | refine blk_drew ?_ | refine blk_alloc ?_ _)); refine blk_put (cs := #[.int .i64 t378, .int .i64 t379, .int .i64 t380, .int .i64 0, .int .u64 0, .int .u64 0, .int .u64 0]) ?_ 3 _ rfl; (with_reducible repeat (first | refine blk_drewN ?_ _ | refine blk_drew ?_ | refine blk_alloc ?_ _)); refine blk_put (cs := #[.int .i64 t378, .int .i64 t379, .int .i64 0, .int .i64 0, .int .u64 0, .int .u64 0, .int .u64 0]) ?_ 2 _ rfl; (with_reducible repeat (first | refine blk_drewN ?_ _ | refine blk_drew ?_ | refine blk_alloc ?_ _)); refine blk_put (cs := #[.int .i64 t378, .int .i64 0, .int .i64 0, .int .i64 0, .int .u64 0, .int .u64 0, .int .u64 0]) ?_ 1 _ rfl; (with_reducible repeat (first | refine blk_drewN ?_ _ | refine blk_drew ?_ | refine blk_alloc ?_ _)); refine blk_put (cs := #[.int .i64 0, .int .i64 0, .int .i64 0, .int .i64 0, .int .u64 0, .int .u64 0, .int .u64 0]) ?_ 0 _ rfl; (with_reducible repeat (first | refine blk_drewN ?_ _ | refine blk_drew ?_ | refine blk_alloc ?_ _)); exact BK386.out⟩, ⟨by repeat (first | (with_reducible first | exact HB.out | apply below_alloc | apply pw_below_drewN | apply below_drew1 | refine below_set ?_ GE372.out | refine below_set ?_ GE386.out) | exact HB.out)⟩⟩
                · rw [if_neg c29] at H
                  have c29b0 : (a1 == 0) = false := beq_eq_false_iff_ne.mpr c29
                  have c29b1 : (a1 != 0) = true := bne_iff_ne.mpr c29
                  (first | rw [c29b0] | (simp only [i64_w, i32_w]; rw [c29b0]) | skip)
                  have H' := Aside0.mk H
                  clear H
                  go_wp2
                  go_meet
                  case rel => exact ⟨_, (false), (by first | rfl | (simp; done) | (simp [*]; done)), H', ⟨by have := HJ7.out; first | omega | exact Nat.le_refl _⟩, ⟨by (with_reducible repeat (first | apply Kd.V_alloc | apply Kd.V_drewN | apply Kd.V_drew)); exact Kd.V_mono (Kd.V_far (p := ⟨gb386, 6, none⟩) (Kd.V_far (p := ⟨gb386, 5, none⟩) (Kd.V_far (p := ⟨gb386, 4, none⟩) (Kd.V_far (p := ⟨gb386, 3, none⟩) (Kd.V_far (p := ⟨gb386, 2, none⟩) (Kd.V_far (p := ⟨gb386, 1, none⟩) (Kd.V_far (p := ⟨gb386, 0, none⟩) (Kd.V_mono HO_373001.out (fun k_ hk => (⟨hk, hk.2⟩ : _ ∧ k_ ≠ gb386))) (fun _ hk => hk.2) (.int .i64 t378)) (fun _ hk => hk.2) (.int .i64 t379)) (fun _ hk => hk.2) (.int .i64 t380)) (fun _ hk => hk.2) (.int .i64 t381)) (fun _ hk => hk.2) (.int .u64 t382)) (fun _ hk => hk.2) (.int .u64 t383)) (fun _ hk => hk.2) (.int .u64 t384)) (fun _ hk => ⟨hk.1.1, hk.1.2⟩)⟩, ⟨by (with_reducible repeat (first | refine blk_drewN ?_ _ | refine blk_drew ?_ | refine blk_alloc ?_ _)); refine blk_far ?_ NB372_386.out _; (with_reducible repeat (first | refine blk_drewN ?_ _ | refine blk_drew ?_ | refine blk_alloc ?_ _)); refine blk_far ?_ NB372_386.out _; (with_reducible repeat (first | refine blk_drewN ?_ _ | refine blk_drew ?_ | refine blk_alloc ?_ _)); refine blk_far ?_ NB372_386.out _; (with_reducible repeat (first | refine blk_drewN ?_ _ | refine blk_drew ?_ | refine blk_alloc ?_ _)); refine blk_far ?_ NB372_386.out _; (with_reducible repeat (first | refine blk_drewN ?_ _ | refine blk_drew ?_ | refine blk_alloc ?_ _)); refine blk_far ?_ NB372_386.out _; (with_reducible repeat (first | refine blk_drewN ?_ _ | refine blk_drew ?_ | refine blk_alloc ?_ _)); refine blk_far ?_ NB372_386.out _; (with_reducible repeat (first | refine blk_drewN ?_ _ | refine blk_drew ?_ | refine blk_alloc ?_ _)); refine blk_far ?_ NB372_386.out _; (with_reducible repeat (first | refine blk_drewN ?_ _ | refine blk_drew ?_ | refine blk_alloc ?_ _)); exact BK372.out⟩, ⟨by (with_reducible repeat (first | refine blk_drewN ?_ _ | refine blk_drew ?_ | refine blk_alloc ?_ _)); refine blk_put (cs := #[.int .i64 t378, .int .i64 t379, .int .i64 t380, .int .i64 t381, .int .u64 t382, .int .u64 t383, .int .u64 0]) ?_ 6 _ rfl; (with_reducible repeat (first | refine blk_drewN ?_ _ | refine blk_drew ?_ | refine blk_alloc ?_ _)); refine blk_put (cs := #[.int .i64 t378, .int .i64 t379, .int .i64 t380, .int .i64 t381, .int .u64 t382, .int .u64 0, .int .u64 0]) ?_ 5 _ rfl; (with_reducible repeat (first | refine blk_drewN ?_ _ | refine blk_drew ?_ | refine blk_alloc ?_ _)); refine blk_put (cs := #[.int .i64 t378, .int .i64 t379, .int .i64 t380, .int .i64 t381, .int .u64 0, .int .u64 0, .int .u64 0]) ?_ 4 _ rfl; (with_reducible repeat (first | refine blk_drewN ?_ _ | refine blk_drew ?_ | refine blk_alloc ?_ _)); refine blk_put (cs := #[.int .i64 t378, .int .i64 t379, .int .i64 t380, .int .i64 0, .int .u64 0, .int .u64 0, .int .u64 0]) ?_ 3 _ rfl; (with_reducible repeat (first | refine blk_drewN ?_ _ | refine blk_drew ?_ | refine blk_alloc ?_ _)); refine blk_put (cs := #[.int .i64 t378, .int .i64 t379, .int .i64 0, .int .i64 0, .int .u64 0, .int .u64 0, .int .u64 0]) ?_ 2 _ rfl; (with_reducible repeat (first | refine blk_drewN ?_ _ | refine blk_drew ?_ | refine blk_alloc ?_ _)); refine blk_put (cs := #[.int .i64 t378, .int .i64 0, .int .i64 0, .int .i64 0, .int .u64 0, .int .u64 0, .int .u64 0]) ?_ 1 _ rfl; (with_reducible repeat (first | refine blk_drewN ?_ _ | refine blk_drew ?_ | refine blk_alloc ?_ _)); refine blk_put (cs := #[.int .i64 0, .int .i64 0, .int .i64 0, .int .i64 0, .int .u64 0, .int .u64 0, .int .u64 0]) ?_ 0 _ rfl; (with_reducible repeat (first | refine blk_drewN ?_ _ | refine blk_drew ?_ | refine blk_alloc ?_ _)); exact BK386.out⟩, ⟨by repeat (first | (with_reducible first | exact HB.out | apply below_alloc | apply pw_below_drewN | apply below_drew1 | refine below_set ?_ GE372.out | refine below_set ?_ GE386.out) | exact HB.out)⟩⟩
              case rest =>
                clear HC22
                try clear c1
                try clear c2
                try clear p2
                try clear c3
                try clear c5
                try clear c5b0
                try clear c5b1
                try clear c11
                try clear c14
                try clear c16
                try clear c17
                try clear c18
                try clear c18b0
                try clear c20
                try clear c20b0
                try clear c20b1
                try clear c21
                try clear c22
                try clear c23
                try clear c27
                try clear c29
                try clear c29b0
                try clear c29b1
                try clear c30
                try clear hcz13_0
                try clear hcz13_1
                try clear hcz13_2
                try clear hcz13_3
                try clear hcz23_0
                try clear hcz23_1
                try clear hcz23_2
                try clear hcz23_3
                try clear hcz28_0
                try clear hcz28_1
                try clear hcz28_2
                try clear hcz28_3
                try clear hcz28_4
                try clear hcz28_5
                try clear hcz28_6
                try clear hcz31_0
                try clear hcz31_1
                try clear hcz31_2
                try clear hcz31_3
                try clear hcz31_4
                try clear hcz31_5
                try clear hcz31_6
                try clear hfz13_0
                try clear hfz13_1
                try clear hfz13_2
                try clear hfz13_3
                try clear hfz23_0
                try clear hfz23_1
                try clear hfz23_2
                try clear hfz23_3
                try clear hfz28_0
                try clear hfz28_1
                try clear hfz28_2
                try clear hfz28_3
                try clear hfz28_4
                try clear hfz28_5
                try clear hfz28_6
                try clear hfz31_0
                try clear hfz31_1
                try clear hfz31_2
                try clear hfz31_3
                try clear hfz31_4
                try clear hfz31_5
                try clear hfz31_6
                try clear p2
                obtain ⟨kq, x74_21, rfl, HA, HJ21, HO_373001, BK372, BK386, HB⟩ := hcut
                cases kq with
                | zero => exact absurd HA.out (by simp [caliperlaw08_RoundTies.j1])
                | succ kj21 =>
                  have H := HA.out
                  clear HA
                  simp only [caliperlaw08_RoundTies.j1] at H
                  by_cases c32 : x74_21 = true
                  · subst c32
                    have H1 : (if t361 = true then (if t377 = 0 then (if t375 = 1 then (some (!t376)) else (some false)) else (some false)) else (some false)) = some r := by rw [if_pos rfl] at H; exact H
                    clear H
                    have H := H1
                    clear H1
                    by_cases c33 : t361 = true
                    · subst c33
                      have H1 : (if t377 = 0 then (if t375 = 1 then (some (!t376)) else (some false)) else (some false)) = some r := by rw [if_pos rfl] at H; exact H
                      clear H
                      have H := H1
                      clear H1
                      by_cases c34 : t377 = 0
                      · rw [if_pos c34] at H
                        have c34b0 : (t377 == 0) = true := beq_iff_eq.mpr c34
                        have c34b1 : (t377 != 0) = false := bne_eq_false_iff_eq.mpr c34
                        clear c34
                        by_cases c35 : t375 = 1
                        · rw [if_pos c35] at H
                          have c35b0 : (t375 == 1) = true := beq_iff_eq.mpr c35
                          have c35b1 : (t375 != 1) = false := bne_eq_false_iff_eq.mpr c35
                          clear c35
                          obtain rfl := Option.some.inj H
                          go_wp2
                          go_ret
                          exact ⟨by first | rfl | (simp [errW_none, errW_some] <;> rfl) | (simp [*, errW_none, errW_some] <;> rfl), by repeat (first | (with_reducible first | exact HB.out | apply below_alloc | apply pw_below_drewN | apply below_drew1 | refine below_set ?_ GE372.out | refine below_set ?_ GE386.out) | exact HB.out)⟩
                        · rw [if_neg c35] at H
                          have c35b0 : (t375 == 1) = false := beq_eq_false_iff_ne.mpr c35
                          have c35b1 : (t375 != 1) = true := bne_iff_ne.mpr c35
                          obtain rfl := Option.some.inj H
                          go_wp2
                          go_ret
                          exact ⟨by first | rfl | (simp [errW_none, errW_some] <;> rfl) | (simp [*, errW_none, errW_some] <;> rfl), by repeat (first | (with_reducible first | exact HB.out | apply below_alloc | apply pw_below_drewN | apply below_drew1 | refine below_set ?_ GE372.out | refine below_set ?_ GE386.out) | exact HB.out)⟩
                      · rw [if_neg c34] at H
                        have c34b0 : (t377 == 0) = false := beq_eq_false_iff_ne.mpr c34
                        have c34b1 : (t377 != 0) = true := bne_iff_ne.mpr c34
                        obtain rfl := Option.some.inj H
                        go_wp2
                        go_ret
                        exact ⟨by first | rfl | (simp [errW_none, errW_some] <;> rfl) | (simp [*, errW_none, errW_some] <;> rfl), by repeat (first | (with_reducible first | exact HB.out | apply below_alloc | apply pw_below_drewN | apply below_drew1 | refine below_set ?_ GE372.out | refine below_set ?_ GE386.out) | exact HB.out)⟩
                    · replace c33 := Bool.eq_false_iff.mpr c33
                      subst c33
                      have H1 : (some false) = some r := by rw [if_neg (show ¬ (false = true) by decide)] at H; exact H
                      clear H
                      have H := H1
                      clear H1
                      obtain rfl := Option.some.inj H
                      go_wp2
                      go_ret
                      exact ⟨by first | rfl | (simp [errW_none, errW_some] <;> rfl) | (simp [*, errW_none, errW_some] <;> rfl), by repeat (first | (with_reducible first | exact HB.out | apply below_alloc | apply pw_below_drewN | apply below_drew1 | refine below_set ?_ GE372.out | refine below_set ?_ GE386.out) | exact HB.out)⟩
                  · replace c32 := Bool.eq_false_iff.mpr c32
                    subst c32
                    have H1 : (if t361 = true then (if t377 = 0 then (if t375 = a1 then (some (!t376)) else (some false)) else (some false)) else (some false)) = some r := by rw [if_neg (show ¬ (false = true) by decide)] at H; exact H
                    clear H
                    have H := H1
                    clear H1
                    by_cases c36 : t361 = true
                    · subst c36
                      have H1 : (if t377 = 0 then (if t375 = a1 then (some (!t376)) else (some false)) else (some false)) = some r := by rw [if_pos rfl] at H; exact H
                      clear H
                      have H := H1
                      clear H1
                      by_cases c37 : t377 = 0
                      · rw [if_pos c37] at H
                        have c37b0 : (t377 == 0) = true := beq_iff_eq.mpr c37
                        have c37b1 : (t377 != 0) = false := bne_eq_false_iff_eq.mpr c37
                        clear c37
                        by_cases c38 : t375 = a1
                        · rw [if_pos c38] at H
                          have c38b0 : (t375 == a1) = true := beq_iff_eq.mpr c38
                          have c38b1 : (t375 != a1) = false := bne_eq_false_iff_eq.mpr c38
                          clear c38
                          obtain rfl := Option.some.inj H
                          go_wp2
                          go_ret
                          exact ⟨by first | rfl | (simp [errW_none, errW_some] <;> rfl) | (simp [*, errW_none, errW_some] <;> rfl), by repeat (first | (with_reducible first | exact HB.out | apply below_alloc | apply pw_below_drewN | apply below_drew1 | refine below_set ?_ GE372.out | refine below_set ?_ GE386.out) | exact HB.out)⟩
                        · rw [if_neg c38] at H
                          have c38b0 : (t375 == a1) = false := beq_eq_false_iff_ne.mpr c38
                          have c38b1 : (t375 != a1) = true := bne_iff_ne.mpr c38
                          obtain rfl := Option.some.inj H
                          go_wp2
                          go_ret
                          exact ⟨by first | rfl | (simp [errW_none, errW_some] <;> rfl) | (simp [*, errW_none, errW_some] <;> rfl), by repeat (first | (with_reducible first | exact HB.out | apply below_alloc | apply pw_below_drewN | apply below_drew1 | refine below_set ?_ GE372.out | refine below_set ?_ GE386.out) | exact HB.out)⟩
                      · rw [if_neg c37] at H
                        have c37b0 : (t377 == 0) = false := beq_eq_false_iff_ne.mpr c37
                        have c37b1 : (t377 != 0) = true := bne_iff_ne.mpr c37
                        obtain rfl := Option.some.inj H
                        go_wp2
                        go_ret
                        exact ⟨by first | rfl | (simp [errW_none, errW_some] <;> rfl) | (simp [*, errW_none, errW_some] <;> rfl), by repeat (first | (with_reducible first | exact HB.out | apply below_alloc | apply pw_below_drewN | apply below_drew1 | refine below_set ?_ GE372.out | refine below_set ?_ GE386.out) | exact HB.out)⟩
                    · replace c36 := Bool.eq_false_iff.mpr c36
                      subst c36
                      have H1 : (some false) = some r := by rw [if_neg (show ¬ (false = true) by decide)] at H; exact H
                      clear H
                      have H := H1
                      clear H1
                      obtain rfl := Option.some.inj H
                      go_wp2
                      go_ret
                      exact ⟨by first | rfl | (simp [errW_none, errW_some] <;> rfl) | (simp [*, errW_none, errW_some] <;> rfl), by repeat (first | (with_reducible first | exact HB.out | apply below_alloc | apply pw_below_drewN | apply below_drew1 | refine below_set ?_ GE372.out | refine below_set ?_ GE386.out) | exact HB.out)⟩
            · rw [if_neg c20] at H
              have c20b0 : ((Int.tmod a1 2) == 0) = false := beq_eq_false_iff_ne.mpr c20
              have c20b1 : ((Int.tmod a1 2) != 0) = true := bne_iff_ne.mpr c20
              by_cases c39 : a1 = t373
              · rw [if_pos c39] at H
                have c39b0 : (a1 == t373) = true := beq_iff_eq.mpr c39
                have c39b1 : (a1 != t373) = false := bne_eq_false_iff_eq.mpr c39
                clear c39
                by_cases c40 : t361 = true
                · subst c40
                  have H1 : (if t377 = 0 then (if t375 = t373 then (some t376) else (some false)) else (some false)) = some r := by rw [if_pos rfl] at H; exact H
                  clear H
                  have H := H1
                  clear H1
                  by_cases c41 : t377 = 0
                  · rw [if_pos c41] at H
                    have c41b0 : (t377 == 0) = true := beq_iff_eq.mpr c41
                    have c41b1 : (t377 != 0) = false := bne_eq_false_iff_eq.mpr c41
                    clear c41
                    by_cases c42 : t375 = t373
                    · rw [if_pos c42] at H
                      have c42b0 : (t375 == t373) = true := beq_iff_eq.mpr c42
                      have c42b1 : (t375 != t373) = false := bne_eq_false_iff_eq.mpr c42
                      clear c42
                      obtain rfl := Option.some.inj H
                      have hcz43_0 : wc.cell? ⟨gb372, 0, none⟩ = some (.bool t365) := (blk_cell BK372.out 0).trans rfl
                      have hcz43_1 : wc.cell? ⟨gb372, 1, none⟩ = some (.slice Ao14 t366.length co14) := (blk_cell BK372.out 1).trans rfl
                      have hcz43_2 : wc.cell? ⟨gb372, 2, none⟩ = some (.int .i64 t369) := (blk_cell BK372.out 2).trans rfl
                      have hcz43_3 : wc.cell? ⟨gb372, 3, none⟩ = some (.int .i64 t370) := (blk_cell BK372.out 3).trans rfl
                      have hfz43_0 := blk_frozen BK372.out 0
                      have hfz43_1 := blk_frozen BK372.out 1
                      have hfz43_2 := blk_frozen BK372.out 2
                      have hfz43_3 := blk_frozen BK372.out 3
                      go_wp2_with (first | ((with_reducible refine gate_callee (f := 14) rfl ?_); refine goesL_ (some 55) rfl rfl Tryd.func14 (by kernel_rfl) rfl #[.int .i64 a0, .bool false, .agg #[.bool t365, .slice Ao14 t366.length co14, .int .i64 t369, .int .i64 t370]] rfl (by (try simp only [List.map_toArray, List.map_cons, List.map_nil]); first | done | rfl | (simp only [List.length_drop, List.length_take]; rfl)) ?_; (with_reducible refine (round_Nearest.calls kj7 a0 false t365 _ _ t366 t369 t370 t375 t376 t377 _ ?side3 ?side1 ?side2 A19.out).mono ?_); (case side1 => repeat (first | exact (Kd.V_reads' HO_373001.out).2.2 | (with_reducible refine Kd.C_alloc ?_ _) | (with_reducible refine Kd.C_drewN ?_ _) | (with_reducible refine Kd.C_drew ?_))); (case side2 => exact (Kd.V_reads' HO_373001.out).2.1); (case side3 => exact Glob.below HG.out (by repeat (first | (with_reducible first | exact HB.out | apply below_alloc | apply pw_below_drewN | apply below_drew1 | refine below_set ?_ GE372.out) | exact HB.out))); rintro e w44 ⟨rfl, hb⟩; refine ⟨_, rfl, ?_⟩; have n0_ := Aside0.mk (Kd.V_below (by (with_reducible repeat (first | apply Kd.V_alloc | apply Kd.V_drewN | apply Kd.V_drew)); exact HO_373001.out) hb); have n1_ := Aside0.mk (blk_below (g := gb372) (o := .cells #[.bool t365, .slice Ao14 t366.length co14, .int .i64 t369, .int .i64 t370] 25 (0, 0)) (by (with_reducible repeat (first | refine blk_drewN ?_ _ | refine blk_drew ?_ | refine blk_alloc ?_ _)); exact BK372.out) hb); have n2_ := Aside0.mk (below_step (by repeat (first | (with_reducible first | exact HB.out | apply below_alloc | apply pw_below_drewN | apply below_drew1 | refine below_set ?_ GE372.out) | exact HB.out)) hb); clear HO_373001; clear BK372; clear HB; have HO_373001 := n0_; have BK372 := n1_; have HB := n2_; clear n0_ n1_ n2_; (try clear hb); (try clear hb2); (try clear hk); (try clear hi)))
                      go_ret
                      exact ⟨by first | rfl | (simp [errW_none, errW_some] <;> rfl) | (simp [*, errW_none, errW_some] <;> rfl), by repeat (first | (with_reducible first | exact HB.out | apply below_alloc | apply pw_below_drewN | apply below_drew1 | refine below_set ?_ GE372.out) | exact HB.out)⟩
                    · rw [if_neg c42] at H
                      have c42b0 : (t375 == t373) = false := beq_eq_false_iff_ne.mpr c42
                      have c42b1 : (t375 != t373) = true := bne_iff_ne.mpr c42
                      obtain rfl := Option.some.inj H
                      have hcz45_0 : wc.cell? ⟨gb372, 0, none⟩ = some (.bool t365) := (blk_cell BK372.out 0).trans rfl
                      have hcz45_1 : wc.cell? ⟨gb372, 1, none⟩ = some (.slice Ao14 t366.length co14) := (blk_cell BK372.out 1).trans rfl
                      have hcz45_2 : wc.cell? ⟨gb372, 2, none⟩ = some (.int .i64 t369) := (blk_cell BK372.out 2).trans rfl
                      have hcz45_3 : wc.cell? ⟨gb372, 3, none⟩ = some (.int .i64 t370) := (blk_cell BK372.out 3).trans rfl
                      have hfz45_0 := blk_frozen BK372.out 0
                      have hfz45_1 := blk_frozen BK372.out 1
                      have hfz45_2 := blk_frozen BK372.out 2
                      have hfz45_3 := blk_frozen BK372.out 3
                      go_wp2_with (first | ((with_reducible refine gate_callee (f := 14) rfl ?_); refine goesL_ (some 55) rfl rfl Tryd.func14 (by kernel_rfl) rfl #[.int .i64 a0, .bool false, .agg #[.bool t365, .slice Ao14 t366.length co14, .int .i64 t369, .int .i64 t370]] rfl (by (try simp only [List.map_toArray, List.map_cons, List.map_nil]); first | done | rfl | (simp only [List.length_drop, List.length_take]; rfl)) ?_; (with_reducible refine (round_Nearest.calls kj7 a0 false t365 _ _ t366 t369 t370 t375 t376 t377 _ ?side3 ?side1 ?side2 A19.out).mono ?_); (case side1 => repeat (first | exact (Kd.V_reads' HO_373001.out).2.2 | (with_reducible refine Kd.C_alloc ?_ _) | (with_reducible refine Kd.C_drewN ?_ _) | (with_reducible refine Kd.C_drew ?_))); (case side2 => exact (Kd.V_reads' HO_373001.out).2.1); (case side3 => exact Glob.below HG.out (by repeat (first | (with_reducible first | exact HB.out | apply below_alloc | apply pw_below_drewN | apply below_drew1 | refine below_set ?_ GE372.out) | exact HB.out))); rintro e w46 ⟨rfl, hb⟩; refine ⟨_, rfl, ?_⟩; have n0_ := Aside0.mk (Kd.V_below (by (with_reducible repeat (first | apply Kd.V_alloc | apply Kd.V_drewN | apply Kd.V_drew)); exact HO_373001.out) hb); have n1_ := Aside0.mk (blk_below (g := gb372) (o := .cells #[.bool t365, .slice Ao14 t366.length co14, .int .i64 t369, .int .i64 t370] 25 (0, 0)) (by (with_reducible repeat (first | refine blk_drewN ?_ _ | refine blk_drew ?_ | refine blk_alloc ?_ _)); exact BK372.out) hb); have n2_ := Aside0.mk (below_step (by repeat (first | (with_reducible first | exact HB.out | apply below_alloc | apply pw_below_drewN | apply below_drew1 | refine below_set ?_ GE372.out) | exact HB.out)) hb); clear HO_373001; clear BK372; clear HB; have HO_373001 := n0_; have BK372 := n1_; have HB := n2_; clear n0_ n1_ n2_; (try clear hb); (try clear hb2); (try clear hk); (try clear hi)))
                      go_ret
                      exact ⟨by first | rfl | (simp [errW_none, errW_some] <;> rfl) | (simp [*, errW_none, errW_some] <;> rfl), by repeat (first | (with_reducible first | exact HB.out | apply below_alloc | apply pw_below_drewN | apply below_drew1 | refine below_set ?_ GE372.out) | exact HB.out)⟩
                  · rw [if_neg c41] at H
                    have c41b0 : (t377 == 0) = false := beq_eq_false_iff_ne.mpr c41
                    have c41b1 : (t377 != 0) = true := bne_iff_ne.mpr c41
                    obtain rfl := Option.some.inj H
                    have hcz47_0 : wc.cell? ⟨gb372, 0, none⟩ = some (.bool t365) := (blk_cell BK372.out 0).trans rfl
                    have hcz47_1 : wc.cell? ⟨gb372, 1, none⟩ = some (.slice Ao14 t366.length co14) := (blk_cell BK372.out 1).trans rfl
                    have hcz47_2 : wc.cell? ⟨gb372, 2, none⟩ = some (.int .i64 t369) := (blk_cell BK372.out 2).trans rfl
                    have hcz47_3 : wc.cell? ⟨gb372, 3, none⟩ = some (.int .i64 t370) := (blk_cell BK372.out 3).trans rfl
                    have hfz47_0 := blk_frozen BK372.out 0
                    have hfz47_1 := blk_frozen BK372.out 1
                    have hfz47_2 := blk_frozen BK372.out 2
                    have hfz47_3 := blk_frozen BK372.out 3
                    go_wp2_with (first | ((with_reducible refine gate_callee (f := 14) rfl ?_); refine goesL_ (some 55) rfl rfl Tryd.func14 (by kernel_rfl) rfl #[.int .i64 a0, .bool false, .agg #[.bool t365, .slice Ao14 t366.length co14, .int .i64 t369, .int .i64 t370]] rfl (by (try simp only [List.map_toArray, List.map_cons, List.map_nil]); first | done | rfl | (simp only [List.length_drop, List.length_take]; rfl)) ?_; (with_reducible refine (round_Nearest.calls kj7 a0 false t365 _ _ t366 t369 t370 t375 t376 t377 _ ?side3 ?side1 ?side2 A19.out).mono ?_); (case side1 => repeat (first | exact (Kd.V_reads' HO_373001.out).2.2 | (with_reducible refine Kd.C_alloc ?_ _) | (with_reducible refine Kd.C_drewN ?_ _) | (with_reducible refine Kd.C_drew ?_))); (case side2 => exact (Kd.V_reads' HO_373001.out).2.1); (case side3 => exact Glob.below HG.out (by repeat (first | (with_reducible first | exact HB.out | apply below_alloc | apply pw_below_drewN | apply below_drew1 | refine below_set ?_ GE372.out) | exact HB.out))); rintro e w48 ⟨rfl, hb⟩; refine ⟨_, rfl, ?_⟩; have n0_ := Aside0.mk (Kd.V_below (by (with_reducible repeat (first | apply Kd.V_alloc | apply Kd.V_drewN | apply Kd.V_drew)); exact HO_373001.out) hb); have n1_ := Aside0.mk (blk_below (g := gb372) (o := .cells #[.bool t365, .slice Ao14 t366.length co14, .int .i64 t369, .int .i64 t370] 25 (0, 0)) (by (with_reducible repeat (first | refine blk_drewN ?_ _ | refine blk_drew ?_ | refine blk_alloc ?_ _)); exact BK372.out) hb); have n2_ := Aside0.mk (below_step (by repeat (first | (with_reducible first | exact HB.out | apply below_alloc | apply pw_below_drewN | apply below_drew1 | refine below_set ?_ GE372.out) | exact HB.out)) hb); clear HO_373001; clear BK372; clear HB; have HO_373001 := n0_; have BK372 := n1_; have HB := n2_; clear n0_ n1_ n2_; (try clear hb); (try clear hb2); (try clear hk); (try clear hi)))
                    go_ret
                    exact ⟨by first | rfl | (simp [errW_none, errW_some] <;> rfl) | (simp [*, errW_none, errW_some] <;> rfl), by repeat (first | (with_reducible first | exact HB.out | apply below_alloc | apply pw_below_drewN | apply below_drew1 | refine below_set ?_ GE372.out) | exact HB.out)⟩
                · replace c40 := Bool.eq_false_iff.mpr c40
                  subst c40
                  have H1 : (some false) = some r := by rw [if_neg (show ¬ (false = true) by decide)] at H; exact H
                  clear H
                  have H := H1
                  clear H1
                  obtain rfl := Option.some.inj H
                  have hcz49_0 : wc.cell? ⟨gb372, 0, none⟩ = some (.bool t365) := (blk_cell BK372.out 0).trans rfl
                  have hcz49_1 : wc.cell? ⟨gb372, 1, none⟩ = some (.slice Ao14 t366.length co14) := (blk_cell BK372.out 1).trans rfl
                  have hcz49_2 : wc.cell? ⟨gb372, 2, none⟩ = some (.int .i64 t369) := (blk_cell BK372.out 2).trans rfl
                  have hcz49_3 : wc.cell? ⟨gb372, 3, none⟩ = some (.int .i64 t370) := (blk_cell BK372.out 3).trans rfl
                  have hfz49_0 := blk_frozen BK372.out 0
                  have hfz49_1 := blk_frozen BK372.out 1
                  have hfz49_2 := blk_frozen BK372.out 2
                  have hfz49_3 := blk_frozen BK372.out 3
                  go_wp2_with (first | ((with_reducible refine gate_callee (f := 14) rfl ?_); refine goesL_ (some 55) rfl rfl Tryd.func14 (by kernel_rfl) rfl #[.int .i64 a0, .bool false, .agg #[.bool t365, .slice Ao14 t366.length co14, .int .i64 t369, .int .i64 t370]] rfl (by (try simp only [List.map_toArray, List.map_cons, List.map_nil]); first | done | rfl | (simp only [List.length_drop, List.length_take]; rfl)) ?_; (with_reducible refine (round_Nearest.calls kj7 a0 false t365 _ _ t366 t369 t370 t375 t376 t377 _ ?side3 ?side1 ?side2 A19.out).mono ?_); (case side1 => repeat (first | exact (Kd.V_reads' HO_373001.out).2.2 | (with_reducible refine Kd.C_alloc ?_ _) | (with_reducible refine Kd.C_drewN ?_ _) | (with_reducible refine Kd.C_drew ?_))); (case side2 => exact (Kd.V_reads' HO_373001.out).2.1); (case side3 => exact Glob.below HG.out (by repeat (first | (with_reducible first | exact HB.out | apply below_alloc | apply pw_below_drewN | apply below_drew1 | refine below_set ?_ GE372.out) | exact HB.out))); rintro e w50 ⟨rfl, hb⟩; refine ⟨_, rfl, ?_⟩; have n0_ := Aside0.mk (Kd.V_below (by (with_reducible repeat (first | apply Kd.V_alloc | apply Kd.V_drewN | apply Kd.V_drew)); exact HO_373001.out) hb); have n1_ := Aside0.mk (blk_below (g := gb372) (o := .cells #[.bool t365, .slice Ao14 t366.length co14, .int .i64 t369, .int .i64 t370] 25 (0, 0)) (by (with_reducible repeat (first | refine blk_drewN ?_ _ | refine blk_drew ?_ | refine blk_alloc ?_ _)); exact BK372.out) hb); have n2_ := Aside0.mk (below_step (by repeat (first | (with_reducible first | exact HB.out | apply below_alloc | apply pw_below_drewN | apply below_drew1 | refine below_set ?_ GE372.out) | exact HB.out)) hb); clear HO_373001; clear BK372; clear HB; have HO_373001 := n0_; have BK372 := n1_; have HB := n2_; clear n0_ n1_ n2_; (try clear hb); (try clear hb2); (try clear hk); (try clear hi)))
                  go_ret
                  exact ⟨by first | rfl | (simp [errW_none, errW_some] <;> rfl) | (simp [*, errW_none, errW_some] <;> rfl), by repeat (first | (with_reducible first | exact HB.out | apply below_alloc | apply pw_below_drewN | apply below_drew1 | refine below_set ?_ GE372.out) | exact HB.out)⟩
              · rw [if_neg c39] at H
                have c39b0 : (a1 == t373) = false := beq_eq_false_iff_ne.mpr c39
                have c39b1 : (a1 != t373) = true := bne_iff_ne.mpr c39
                by_cases c51 : t361 = true
                · subst c51
                  have H1 : (if t377 = 0 then (if t375 = (IntKind.u64.wrap (a1 + 1)) then (some (!t376)) else (some false)) else (some false)) = some r := by rw [if_pos rfl] at H; exact H
                  clear H
                  have H := H1
                  clear H1
                  by_cases c52 : t377 = 0
                  · rw [if_pos c52] at H
                    have c52b0 : (t377 == 0) = true := beq_iff_eq.mpr c52
                    have c52b1 : (t377 != 0) = false := bne_eq_false_iff_eq.mpr c52
                    clear c52
                    by_cases c53 : t375 = (IntKind.u64.wrap (a1 + 1))
                    · rw [if_pos c53] at H
                      have c53b0 : (t375 == (IntKind.u64.wrap (a1 + 1))) = true := beq_iff_eq.mpr c53
                      have c53b1 : (t375 != (IntKind.u64.wrap (a1 + 1))) = false := bne_eq_false_iff_eq.mpr c53
                      clear c53
                      obtain rfl := Option.some.inj H
                      have hcz54_0 : wc.cell? ⟨gb372, 0, none⟩ = some (.bool t365) := (blk_cell BK372.out 0).trans rfl
                      have hcz54_1 : wc.cell? ⟨gb372, 1, none⟩ = some (.slice Ao14 t366.length co14) := (blk_cell BK372.out 1).trans rfl
                      have hcz54_2 : wc.cell? ⟨gb372, 2, none⟩ = some (.int .i64 t369) := (blk_cell BK372.out 2).trans rfl
                      have hcz54_3 : wc.cell? ⟨gb372, 3, none⟩ = some (.int .i64 t370) := (blk_cell BK372.out 3).trans rfl
                      have hfz54_0 := blk_frozen BK372.out 0
                      have hfz54_1 := blk_frozen BK372.out 1
                      have hfz54_2 := blk_frozen BK372.out 2
                      have hfz54_3 := blk_frozen BK372.out 3
                      go_wp2_with (first | ((with_reducible refine gate_callee (f := 14) rfl ?_); refine goesL_ (some 55) rfl rfl Tryd.func14 (by kernel_rfl) rfl #[.int .i64 a0, .bool false, .agg #[.bool t365, .slice Ao14 t366.length co14, .int .i64 t369, .int .i64 t370]] rfl (by (try simp only [List.map_toArray, List.map_cons, List.map_nil]); first | done | rfl | (simp only [List.length_drop, List.length_take]; rfl)) ?_; (with_reducible refine (round_Nearest.calls kj7 a0 false t365 _ _ t366 t369 t370 t375 t376 t377 _ ?side3 ?side1 ?side2 A19.out).mono ?_); (case side1 => repeat (first | exact (Kd.V_reads' HO_373001.out).2.2 | (with_reducible refine Kd.C_alloc ?_ _) | (with_reducible refine Kd.C_drewN ?_ _) | (with_reducible refine Kd.C_drew ?_))); (case side2 => exact (Kd.V_reads' HO_373001.out).2.1); (case side3 => exact Glob.below HG.out (by repeat (first | (with_reducible first | exact HB.out | apply below_alloc | apply pw_below_drewN | apply below_drew1 | refine below_set ?_ GE372.out) | exact HB.out))); rintro e w55 ⟨rfl, hb⟩; refine ⟨_, rfl, ?_⟩; have n0_ := Aside0.mk (Kd.V_below (by (with_reducible repeat (first | apply Kd.V_alloc | apply Kd.V_drewN | apply Kd.V_drew)); exact HO_373001.out) hb); have n1_ := Aside0.mk (blk_below (g := gb372) (o := .cells #[.bool t365, .slice Ao14 t366.length co14, .int .i64 t369, .int .i64 t370] 25 (0, 0)) (by (with_reducible repeat (first | refine blk_drewN ?_ _ | refine blk_drew ?_ | refine blk_alloc ?_ _)); exact BK372.out) hb); have n2_ := Aside0.mk (below_step (by repeat (first | (with_reducible first | exact HB.out | apply below_alloc | apply pw_below_drewN | apply below_drew1 | refine below_set ?_ GE372.out) | exact HB.out)) hb); clear HO_373001; clear BK372; clear HB; have HO_373001 := n0_; have BK372 := n1_; have HB := n2_; clear n0_ n1_ n2_; (try clear hb); (try clear hb2); (try clear hk); (try clear hi)))
                      go_ret
                      exact ⟨by first | rfl | (simp [errW_none, errW_some] <;> rfl) | (simp [*, errW_none, errW_some] <;> rfl), by repeat (first | (with_reducible first | exact HB.out | apply below_alloc | apply pw_below_drewN | apply below_drew1 | refine below_set ?_ GE372.out) | exact HB.out)⟩
                    · rw [if_neg c53] at H
                      have c53b0 : (t375 == (IntKind.u64.wrap (a1 + 1))) = false := beq_eq_false_iff_ne.mpr c53
                      have c53b1 : (t375 != (IntKind.u64.wrap (a1 + 1))) = true := bne_iff_ne.mpr c53
                      obtain rfl := Option.some.inj H
                      have hcz56_0 : wc.cell? ⟨gb372, 0, none⟩ = some (.bool t365) := (blk_cell BK372.out 0).trans rfl
                      have hcz56_1 : wc.cell? ⟨gb372, 1, none⟩ = some (.slice Ao14 t366.length co14) := (blk_cell BK372.out 1).trans rfl
                      have hcz56_2 : wc.cell? ⟨gb372, 2, none⟩ = some (.int .i64 t369) := (blk_cell BK372.out 2).trans rfl
                      have hcz56_3 : wc.cell? ⟨gb372, 3, none⟩ = some (.int .i64 t370) := (blk_cell BK372.out 3).trans rfl
                      have hfz56_0 := blk_frozen BK372.out 0
                      have hfz56_1 := blk_frozen BK372.out 1
                      have hfz56_2 := blk_frozen BK372.out 2
                      have hfz56_3 := blk_frozen BK372.out 3
                      go_wp2_with (first | ((with_reducible refine gate_callee (f := 14) rfl ?_); refine goesL_ (some 55) rfl rfl Tryd.func14 (by kernel_rfl) rfl #[.int .i64 a0, .bool false, .agg #[.bool t365, .slice Ao14 t366.length co14, .int .i64 t369, .int .i64 t370]] rfl (by (try simp only [List.map_toArray, List.map_cons, List.map_nil]); first | done | rfl | (simp only [List.length_drop, List.length_take]; rfl)) ?_; (with_reducible refine (round_Nearest.calls kj7 a0 false t365 _ _ t366 t369 t370 t375 t376 t377 _ ?side3 ?side1 ?side2 A19.out).mono ?_); (case side1 => repeat (first | exact (Kd.V_reads' HO_373001.out).2.2 | (with_reducible refine Kd.C_alloc ?_ _) | (with_reducible refine Kd.C_drewN ?_ _) | (with_reducible refine Kd.C_drew ?_))); (case side2 => exact (Kd.V_reads' HO_373001.out).2.1); (case side3 => exact Glob.below HG.out (by repeat (first | (with_reducible first | exact HB.out | apply below_alloc | apply pw_below_drewN | apply below_drew1 | refine below_set ?_ GE372.out) | exact HB.out))); rintro e w57 ⟨rfl, hb⟩; refine ⟨_, rfl, ?_⟩; have n0_ := Aside0.mk (Kd.V_below (by (with_reducible repeat (first | apply Kd.V_alloc | apply Kd.V_drewN | apply Kd.V_drew)); exact HO_373001.out) hb); have n1_ := Aside0.mk (blk_below (g := gb372) (o := .cells #[.bool t365, .slice Ao14 t366.length co14, .int .i64 t369, .int .i64 t370] 25 (0, 0)) (by (with_reducible repeat (first | refine blk_drewN ?_ _ | refine blk_drew ?_ | refine blk_alloc ?_ _)); exact BK372.out) hb); have n2_ := Aside0.mk (below_step (by repeat (first | (with_reducible first | exact HB.out | apply below_alloc | apply pw_below_drewN | apply below_drew1 | refine below_set ?_ GE372.out) | exact HB.out)) hb); clear HO_373001; clear BK372; clear HB; have HO_373001 := n0_; have BK372 := n1_; have HB := n2_; clear n0_ n1_ n2_; (try clear hb); (try clear hb2); (try clear hk); (try clear hi)))
                      go_ret
                      exact ⟨by first | rfl | (simp [errW_none, errW_some] <;> rfl) | (simp [*, errW_none, errW_some] <;> rfl), by repeat (first | (with_reducible first | exact HB.out | apply below_alloc | apply pw_below_drewN | apply below_drew1 | refine below_set ?_ GE372.out) | exact HB.out)⟩
                  · rw [if_neg c52] at H
                    have c52b0 : (t377 == 0) = false := beq_eq_false_iff_ne.mpr c52
                    have c52b1 : (t377 != 0) = true := bne_iff_ne.mpr c52
                    obtain rfl := Option.some.inj H
                    have hcz58_0 : wc.cell? ⟨gb372, 0, none⟩ = some (.bool t365) := (blk_cell BK372.out 0).trans rfl
                    have hcz58_1 : wc.cell? ⟨gb372, 1, none⟩ = some (.slice Ao14 t366.length co14) := (blk_cell BK372.out 1).trans rfl
                    have hcz58_2 : wc.cell? ⟨gb372, 2, none⟩ = some (.int .i64 t369) := (blk_cell BK372.out 2).trans rfl
                    have hcz58_3 : wc.cell? ⟨gb372, 3, none⟩ = some (.int .i64 t370) := (blk_cell BK372.out 3).trans rfl
                    have hfz58_0 := blk_frozen BK372.out 0
                    have hfz58_1 := blk_frozen BK372.out 1
                    have hfz58_2 := blk_frozen BK372.out 2
                    have hfz58_3 := blk_frozen BK372.out 3
                    go_wp2_with (first | ((with_reducible refine gate_callee (f := 14) rfl ?_); refine goesL_ (some 55) rfl rfl Tryd.func14 (by kernel_rfl) rfl #[.int .i64 a0, .bool false, .agg #[.bool t365, .slice Ao14 t366.length co14, .int .i64 t369, .int .i64 t370]] rfl (by (try simp only [List.map_toArray, List.map_cons, List.map_nil]); first | done | rfl | (simp only [List.length_drop, List.length_take]; rfl)) ?_; (with_reducible refine (round_Nearest.calls kj7 a0 false t365 _ _ t366 t369 t370 t375 t376 t377 _ ?side3 ?side1 ?side2 A19.out).mono ?_); (case side1 => repeat (first | exact (Kd.V_reads' HO_373001.out).2.2 | (with_reducible refine Kd.C_alloc ?_ _) | (with_reducible refine Kd.C_drewN ?_ _) | (with_reducible refine Kd.C_drew ?_))); (case side2 => exact (Kd.V_reads' HO_373001.out).2.1); (case side3 => exact Glob.below HG.out (by repeat (first | (with_reducible first | exact HB.out | apply below_alloc | apply pw_below_drewN | apply below_drew1 | refine below_set ?_ GE372.out) | exact HB.out))); rintro e w59 ⟨rfl, hb⟩; refine ⟨_, rfl, ?_⟩; have n0_ := Aside0.mk (Kd.V_below (by (with_reducible repeat (first | apply Kd.V_alloc | apply Kd.V_drewN | apply Kd.V_drew)); exact HO_373001.out) hb); have n1_ := Aside0.mk (blk_below (g := gb372) (o := .cells #[.bool t365, .slice Ao14 t366.length co14, .int .i64 t369, .int .i64 t370] 25 (0, 0)) (by (with_reducible repeat (first | refine blk_drewN ?_ _ | refine blk_drew ?_ | refine blk_alloc ?_ _)); exact BK372.out) hb); have n2_ := Aside0.mk (below_step (by repeat (first | (with_reducible first | exact HB.out | apply below_alloc | apply pw_below_drewN | apply below_drew1 | refine below_set ?_ GE372.out) | exact HB.out)) hb); clear HO_373001; clear BK372; clear HB; have HO_373001 := n0_; have BK372 := n1_; have HB := n2_; clear n0_ n1_ n2_; (try clear hb); (try clear hb2); (try clear hk); (try clear hi)))
                    go_ret
                    exact ⟨by first | rfl | (simp [errW_none, errW_some] <;> rfl) | (simp [*, errW_none, errW_some] <;> rfl), by repeat (first | (with_reducible first | exact HB.out | apply below_alloc | apply pw_below_drewN | apply below_drew1 | refine below_set ?_ GE372.out) | exact HB.out)⟩
                · replace c51 := Bool.eq_false_iff.mpr c51
                  subst c51
                  have H1 : (some false) = some r := by rw [if_neg (show ¬ (false = true) by decide)] at H; exact H
                  clear H
                  have H := H1
                  clear H1
                  obtain rfl := Option.some.inj H
                  have hcz60_0 : wc.cell? ⟨gb372, 0, none⟩ = some (.bool t365) := (blk_cell BK372.out 0).trans rfl
                  have hcz60_1 : wc.cell? ⟨gb372, 1, none⟩ = some (.slice Ao14 t366.length co14) := (blk_cell BK372.out 1).trans rfl
                  have hcz60_2 : wc.cell? ⟨gb372, 2, none⟩ = some (.int .i64 t369) := (blk_cell BK372.out 2).trans rfl
                  have hcz60_3 : wc.cell? ⟨gb372, 3, none⟩ = some (.int .i64 t370) := (blk_cell BK372.out 3).trans rfl
                  have hfz60_0 := blk_frozen BK372.out 0
                  have hfz60_1 := blk_frozen BK372.out 1
                  have hfz60_2 := blk_frozen BK372.out 2
                  have hfz60_3 := blk_frozen BK372.out 3
                  go_wp2_with (first | ((with_reducible refine gate_callee (f := 14) rfl ?_); refine goesL_ (some 55) rfl rfl Tryd.func14 (by kernel_rfl) rfl #[.int .i64 a0, .bool false, .agg #[.bool t365, .slice Ao14 t366.length co14, .int .i64 t369, .int .i64 t370]] rfl (by (try simp only [List.map_toArray, List.map_cons, List.map_nil]); first | done | rfl | (simp only [List.length_drop, List.length_take]; rfl)) ?_; (with_reducible refine (round_Nearest.calls kj7 a0 false t365 _ _ t366 t369 t370 t375 t376 t377 _ ?side3 ?side1 ?side2 A19.out).mono ?_); (case side1 => repeat (first | exact (Kd.V_reads' HO_373001.out).2.2 | (with_reducible refine Kd.C_alloc ?_ _) | (with_reducible refine Kd.C_drewN ?_ _) | (with_reducible refine Kd.C_drew ?_))); (case side2 => exact (Kd.V_reads' HO_373001.out).2.1); (case side3 => exact Glob.below HG.out (by repeat (first | (with_reducible first | exact HB.out | apply below_alloc | apply pw_below_drewN | apply below_drew1 | refine below_set ?_ GE372.out) | exact HB.out))); rintro e w61 ⟨rfl, hb⟩; refine ⟨_, rfl, ?_⟩; have n0_ := Aside0.mk (Kd.V_below (by (with_reducible repeat (first | apply Kd.V_alloc | apply Kd.V_drewN | apply Kd.V_drew)); exact HO_373001.out) hb); have n1_ := Aside0.mk (blk_below (g := gb372) (o := .cells #[.bool t365, .slice Ao14 t366.length co14, .int .i64 t369, .int .i64 t370] 25 (0, 0)) (by (with_reducible repeat (first | refine blk_drewN ?_ _ | refine blk_drew ?_ | refine blk_alloc ?_ _)); exact BK372.out) hb); have n2_ := Aside0.mk (below_step (by repeat (first | (with_reducible first | exact HB.out | apply below_alloc | apply pw_below_drewN | apply below_drew1 | refine below_set ?_ GE372.out) | exact HB.out)) hb); clear HO_373001; clear BK372; clear HB; have HO_373001 := n0_; have BK372 := n1_; have HB := n2_; clear n0_ n1_ n2_; (try clear hb); (try clear hb2); (try clear hk); (try clear hi)))
                  go_ret
                  exact ⟨by first | rfl | (simp [errW_none, errW_some] <;> rfl) | (simp [*, errW_none, errW_some] <;> rfl), by repeat (first | (with_reducible first | exact HB.out | apply below_alloc | apply pw_below_drewN | apply below_drew1 | refine below_set ?_ GE372.out) | exact HB.out)⟩
  · rw [if_neg c5] at H
    have c5b0 : (t364 == 0) = false := beq_eq_false_iff_ne.mpr c5
    have c5b1 : (t364 != 0) = true := bne_iff_ne.mpr c5
    obtain rfl := Option.some.inj H
    go_enter Tryd.func5, Tryd.ntmps5
    go_wp2_with (first | ((with_reducible refine gate_callee (f := 11) rfl ?_); refine goesL_ (some 19) rfl rfl Tryd.func11 (by kernel_rfl) rfl #[] rfl (by (try simp only [List.map_toArray, List.map_cons, List.map_nil]); first | done | rfl | (simp only [List.length_drop, List.length_take]; rfl)) ?_; (with_reducible refine (caliperlaw08_shown.calls  t361 _ ?side1 A3.out).mono ?_); (case side1 => exact Glob.below HG.out (by repeat (first | (with_reducible first | exact HB.out | apply below_alloc | apply pw_below_drewN | apply below_drew1) | exact HB.out))); rintro e w62 ⟨rfl, hb⟩; refine ⟨_, rfl, ?_⟩; have n0_ := Aside0.mk (below_step (by repeat (first | (with_reducible first | exact HB.out | apply below_alloc | apply pw_below_drewN | apply below_drew1) | exact HB.out)) hb); clear HB; have HB := n0_; clear n0_; (try clear hb); (try clear hb2); (try clear hk); (try clear hi)) | ((with_reducible refine gate_callee (f := 20) rfl ?_); refine goesL_ (some 23) rfl rfl Tryd.func20 (by kernel_rfl) rfl #[.int .i64 a0, .int .u64 a1] rfl (by (try simp only [List.map_toArray, List.map_cons, List.map_nil]); first | done | rfl | (simp only [List.length_drop, List.length_take]; rfl)) ?_; (with_reducible refine (value_Between.calls a0 a1 t362 t363 t364 _ ?side1 A4.out).mono ?_); (case side1 => exact Glob.below HG.out (by repeat (first | (with_reducible first | exact HB.out | apply below_alloc | apply pw_below_drewN | apply below_drew1) | exact HB.out))); rintro e w63 ⟨rfl, hb⟩; refine ⟨_, rfl, ?_⟩; have n0_ := Aside0.mk (below_step (by repeat (first | (with_reducible first | exact HB.out | apply below_alloc | apply pw_below_drewN | apply below_drew1) | exact HB.out)) hb); clear HB; have HB := n0_; clear n0_; (try clear hb); (try clear hb2); (try clear hk); (try clear hi)))
    go_ret
    exact ⟨by first | rfl | (simp [errW_none, errW_some] <;> rfl) | (simp [*, errW_none, errW_some] <;> rfl), by repeat (first | (with_reducible first | exact HB.out | apply below_alloc | apply pw_below_drewN | apply below_drew1) | exact HB.out)⟩

end Go.Proofs.YtmcodbgbjjldnaaDoor.Pr
