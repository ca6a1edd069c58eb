import Derived.Test.YtnbkjlebphmpnaaDoorPrx0
import Derived.Test.YtnbkjlebphmpnaaDoorPrx7
import Derived.Test.YtnbkjlebphmpnaaDoorPrx8
import Derived.Test.YtnbkjlebphmpnaaDoorGivA
import Derived.Test.YtnbkjlebphmpnaaDoorGivG
namespace Go.Proofs.YtnbkjlebphmpnaaDoor.Pr
open Go.RowKit Go.Proofs.YtnbkjlebphmpnaaDoorW.PrintWords Go.Proofs.YtnbkjlebphmpnaaDoorW.PrintLast Go.Proofs.YtnbkjlebphmpnaaDoorW.PrintMore
attribute [local go_sem] max2_int min2_int max_two min_two max_three min_three max_four min_four   -- for this text's walks alone
set_option linter.unusedVariables false
set_option linter.unusedSimpArgs false

mutual
def caliperlaw14_TransSigns.j0 : Nat → Int → Int → Int → Bool → Int → Option (Bool)
  | 0, _, _, _, _, _ => none
  | k + 1, x0, x1, x3, x9, x10 => (trans_Turn.f k x0 x1 x10 x3).bind fun bt423 => (if bt423.2 = 0 then ((value_Decode.f x0 x3).bind fun bt425 => ((value_Decode.f x1 bt423.1).bind fun bt431 => ((forms_Of.f x1).bind fun bt437 => (if bt425.2.2.2.2 = 0 then (if bt431.2.2.2.2 = 0 then (caliperlaw14_TransSigns.j1 k x9 (bt437.2.2.2.2.2.2.2 != 0) bt425.1 bt425.2.1 bt425.2.2.1 bt425.2.2.2.1 bt431.1 bt431.2.1 bt431.2.2.1 bt431.2.2.2.1 bt437.1 bt437.2.1 bt437.2.2.1 bt437.2.2.2.1 bt437.2.2.2.2.1 bt437.2.2.2.2.2.1 bt437.2.2.2.2.2.2.1) else (caliperlaw14_TransSigns.j1 k x9 true bt425.1 bt425.2.1 bt425.2.2.1 bt425.2.2.2.1 bt431.1 bt431.2.1 bt431.2.2.1 bt431.2.2.2.1 bt437.1 bt437.2.1 bt437.2.2.1 bt437.2.2.2.1 bt437.2.2.2.2.1 bt437.2.2.2.2.2.1 bt437.2.2.2.2.2.2.1)) else (caliperlaw14_TransSigns.j1 k x9 true bt425.1 bt425.2.1 bt425.2.2.1 bt425.2.2.2.1 bt431.1 bt431.2.1 bt431.2.2.1 bt431.2.2.2.1 bt437.1 bt437.2.1 bt437.2.2.1 bt437.2.2.2.1 bt437.2.2.2.2.1 bt437.2.2.2.2.2.1 bt437.2.2.2.2.2.2.1))))) else (if x9 = true then (some (bt423.1 == 0)) else (some false)))
def caliperlaw14_TransSigns.j1 : Nat → Bool → Bool → Int → Bool → Int → Int → Int → Bool → Int → Int → Int → Int → Int → Int → Int → Int → Int → Option (Bool)
  | 0, _, _, _, _, _, _, _, _, _, _, _, _, _, _, _, _, _ => none
  | k + 1, x9, x62, x431000, x431001, x431002, x431003, x437000, x437001, x437002, x437003, x446000, x446001, x446002, x446003, x446004, x446005, x446006 => if x62 = true then (some false) else (if x437000 = 4 then (if x9 = true then (some (!x437001)) else (some false)) else (if x431000 = 4 then (if x9 = true then (some (!x437001)) else (some false)) else (if x437000 = 1 then (if x446000 = 2 then (if x9 = true then (some (x437001 == x431001)) else (some false)) else (if x9 = true then (some (!x437001)) else (some false))) else (if x9 = true then (some (x437001 == x431001)) else (some false)))))
end
def caliperlaw14_TransSigns.f (k : Nat) (a0 : Int) (a1 : Int) (a2 : Bool) (a3 : Int) : Option (Bool) := (caliperlaw14_shown.f k).bind fun t422 => (if a2 = true then (caliperlaw14_TransSigns.j0 k a0 a1 a3 t422 2) else (caliperlaw14_TransSigns.j0 k a0 a1 a3 t422 1))
set_option maxHeartbeats 8000000 in
set_option maxRecDepth 100000 in
theorem caliperlaw14_TransSigns.calls (k : Nat) (a0 : Int) (a1 : Int) (a2 : Bool) (a3 : Int) (r : Bool) (w : World) (hG : Glob w) (h : caliperlaw14_TransSigns.f k a0 a1 a2 a3 = some r) :
    Calls Tryd.prog 6 #[.int .i64 a0, .int .i64 a1, .bool a2, .int .u64 a3] w fun e w' => e = .returned (.bool r) ∧ Below w.heap.size w w' := by
  have hu31 := Tryd.underlying31
  have hu44 := Tryd.underlying44
  have HG := Aside0.mk hG
  clear hG
  have HB := Aside0.mk (Below.refl w.heap.size w)
  have H : ((caliperlaw14_shown.f k).bind fun t422 => (if a2 = true then (caliperlaw14_TransSigns.j0 k a0 a1 a3 t422 2) else (caliperlaw14_TransSigns.j0 k a0 a1 a3 t422 1))) = some r := h
  clear h
  replace H := Option.bind_eq_some_iff.mp H
  obtain ⟨t422, A50, H⟩ := H
  replace H : (if a2 = true then (caliperlaw14_TransSigns.j0 k a0 a1 a3 t422 2) else (caliperlaw14_TransSigns.j0 k a0 a1 a3 t422 1)) = some r := H
  have A5 := Aside0.mk A50
  clear A50
  have HC6 := Aside0.mk H
  clear H
  go_enter Tryd.func6, Tryd.ntmps6
  go_upto_if 20 with (first | ((with_reducible refine gate_callee (f := 10) rfl ?_); refine goesL_ (some 19) rfl rfl Tryd.func10 (by kernel_rfl) rfl #[] rfl (by (try simp only [List.map_toArray, List.map_cons, List.map_nil]); first | done | rfl | (simp only [List.length_drop, List.length_take]; rfl)) ?_; (with_reducible refine (caliperlaw14_shown.calls k  t422 _ ?side1 A5.out).mono ?_); (case side1 => exact Glob.below HG.out (by repeat (first | (with_reducible first | exact HB.out | apply below_alloc | apply pw_below_drewN | apply below_drew1) | exact HB.out))); rintro e w7 ⟨rfl, hb⟩; refine ⟨_, rfl, ?_⟩; have n0_ := Aside0.mk (below_step (by repeat (first | (with_reducible first | exact HB.out | apply below_alloc | apply pw_below_drewN | apply below_drew1) | exact HB.out)) hb); clear HB; have HB := n0_; clear n0_; (try clear hb); (try clear hb2); (try clear hk); (try clear hi)))
  (try simp only [Act.put, List.setIfInBounds_toArray, List.set_cons_zero, List.set_cons_succ])
  go_cut [10] (fun v10 wc => ∃ (kq : Nat) (x10_5 : Int), v10 = .int .i64 x10_5 ∧ Aside0 (caliperlaw14_TransSigns.j0 kq a0 a1 a3 t422 x10_5 = some r) ∧ Aside0 (kq ≤ k) ∧ Aside0 (Below w.heap.size w wc))
  case first =>
    have H := HC6.out
    clear HC6
    by_cases c8 : a2 = true
    · subst c8
      have H1 : (caliperlaw14_TransSigns.j0 k a0 a1 a3 t422 2) = some r := by rw [if_pos rfl] at H; exact H
      clear H
      have H := H1
      clear H1
      have H' := Aside0.mk H
      clear H
      go_wp2
      go_meet
      case rel => exact ⟨_, (2), (by first | rfl | (simp; done) | (simp [*]; done)), H', ⟨by first | omega | exact Nat.le_refl _⟩, ⟨by repeat (first | (with_reducible first | exact HB.out | apply below_alloc | apply pw_below_drewN | apply below_drew1) | exact HB.out)⟩⟩
    · replace c8 := Bool.eq_false_iff.mpr c8
      subst c8
      have H1 : (caliperlaw14_TransSigns.j0 k a0 a1 a3 t422 1) = some r := by rw [if_neg (show ¬ (false = true) by decide)] at H; exact H
      clear H
      have H := H1
      clear H1
      have H' := Aside0.mk H
      clear H
      go_wp2
      go_meet
      case rel => exact ⟨_, (1), (by first | rfl | (simp; done) | (simp [*]; done)), H', ⟨by first | omega | exact Nat.le_refl _⟩, ⟨by repeat (first | (with_reducible first | exact HB.out | apply below_alloc | apply pw_below_drewN | apply below_drew1) | exact HB.out)⟩⟩
  case rest =>
    clear HC6
    try clear c1
    try clear p2
    try clear c6
    try clear c8
    obtain ⟨kq, x10_5, rfl, HA, HJ5, HB⟩ := hcut
    cases kq with
    | zero => exact absurd HA.out (by simp [caliperlaw14_TransSigns.j0])
    | succ kj5 =>
      have H := HA.out
      clear HA
      simp only [caliperlaw14_TransSigns.j0] at H
      replace H := Option.bind_eq_some_iff.mp H
      obtain ⟨⟨t423, t424⟩, A90, H⟩ := H
      replace H : (if t424 = 0 then ((value_Decode.f a0 a3).bind fun bt425 => ((value_Decode.f a1 t423).bind fun bt431 => ((forms_Of.f a1).bind fun bt437 => (if bt425.2.2.2.2 = 0 then (if bt431.2.2.2.2 = 0 then (caliperlaw14_TransSigns.j1 kj5 t422 (bt437.2.2.2.2.2.2.2 != 0) bt425.1 bt425.2.1 bt425.2.2.1 bt425.2.2.2.1 bt431.1 bt431.2.1 bt431.2.2.1 bt431.2.2.2.1 bt437.1 bt437.2.1 bt437.2.2.1 bt437.2.2.2.1 bt437.2.2.2.2.1 bt437.2.2.2.2.2.1 bt437.2.2.2.2.2.2.1) else (caliperlaw14_TransSigns.j1 kj5 t422 true bt425.1 bt425.2.1 bt425.2.2.1 bt425.2.2.2.1 bt431.1 bt431.2.1 bt431.2.2.1 bt431.2.2.2.1 bt437.1 bt437.2.1 bt437.2.2.1 bt437.2.2.2.1 bt437.2.2.2.2.1 bt437.2.2.2.2.2.1 bt437.2.2.2.2.2.2.1)) else (caliperlaw14_TransSigns.j1 kj5 t422 true bt425.1 bt425.2.1 bt425.2.2.1 bt425.2.2.2.1 bt431.1 bt431.2.1 bt431.2.2.1 bt431.2.2.2.1 bt437.1 bt437.2.1 bt437.2.2.1 bt437.2.2.2.1 bt437.2.2.2.2.1 bt437.2.2.2.2.2.1 bt437.2.2.2.2.2.2.1))))) else (if t422 = true then (some (t423 == 0)) else (some false))) = some r := H
      have A9 := Aside0.mk A90
      clear A90
      by_cases c10 : t424 = 0
      · rw [if_pos c10] at H
        have c10b0 : (t424 == 0) = true := beq_iff_eq.mpr c10
        have c10b1 : (t424 != 0) = false := bne_eq_false_iff_eq.mpr c10
        clear c10
        replace H := Option.bind_eq_some_iff.mp H
        obtain ⟨⟨t425, t426, t427, t428, t429⟩, A110, H⟩ := H
        replace H : ((value_Decode.f a1 t423).bind fun bt431 => ((forms_Of.f a1).bind fun bt437 => (if t429 = 0 then (if bt431.2.2.2.2 = 0 then (caliperlaw14_TransSigns.j1 kj5 t422 (bt437.2.2.2.2.2.2.2 != 0) t425 t426 t427 t428 bt431.1 bt431.2.1 bt431.2.2.1 bt431.2.2.2.1 bt437.1 bt437.2.1 bt437.2.2.1 bt437.2.2.2.1 bt437.2.2.2.2.1 bt437.2.2.2.2.2.1 bt437.2.2.2.2.2.2.1) else (caliperlaw14_TransSigns.j1 kj5 t422 true t425 t426 t427 t428 bt431.1 bt431.2.1 bt431.2.2.1 bt431.2.2.2.1 bt437.1 bt437.2.1 bt437.2.2.1 bt437.2.2.2.1 bt437.2.2.2.2.1 bt437.2.2.2.2.2.1 bt437.2.2.2.2.2.2.1)) else (caliperlaw14_TransSigns.j1 kj5 t422 true t425 t426 t427 t428 bt431.1 bt431.2.1 bt431.2.2.1 bt431.2.2.2.1 bt437.1 bt437.2.1 bt437.2.2.1 bt437.2.2.2.1 bt437.2.2.2.2.1 bt437.2.2.2.2.2.1 bt437.2.2.2.2.2.2.1)))) = some r := H
        have A11 := Aside0.mk A110
        clear A110
        replace H := Option.bind_eq_some_iff.mp H
        obtain ⟨⟨t431, t432, t433, t434, t435⟩, A120, H⟩ := H
        replace H : ((forms_Of.f a1).bind fun bt437 => (if t429 = 0 then (if t435 = 0 then (caliperlaw14_TransSigns.j1 kj5 t422 (bt437.2.2.2.2.2.2.2 != 0) t425 t426 t427 t428 t431 t432 t433 t434 bt437.1 bt437.2.1 bt437.2.2.1 bt437.2.2.2.1 bt437.2.2.2.2.1 bt437.2.2.2.2.2.1 bt437.2.2.2.2.2.2.1) else (caliperlaw14_TransSigns.j1 kj5 t422 true t425 t426 t427 t428 t431 t432 t433 t434 bt437.1 bt437.2.1 bt437.2.2.1 bt437.2.2.2.1 bt437.2.2.2.2.1 bt437.2.2.2.2.2.1 bt437.2.2.2.2.2.2.1)) else (caliperlaw14_TransSigns.j1 kj5 t422 true t425 t426 t427 t428 t431 t432 t433 t434 bt437.1 bt437.2.1 bt437.2.2.1 bt437.2.2.2.1 bt437.2.2.2.2.1 bt437.2.2.2.2.2.1 bt437.2.2.2.2.2.2.1))) = some r := H
        have A12 := Aside0.mk A120
        clear A120
        replace H := Option.bind_eq_some_iff.mp H
        obtain ⟨⟨t437, t438, t439, t440, t441, t442, t443, t444⟩, A130, H⟩ := H
        replace H : (if t429 = 0 then (if t435 = 0 then (caliperlaw14_TransSigns.j1 kj5 t422 (t444 != 0) t425 t426 t427 t428 t431 t432 t433 t434 t437 t438 t439 t440 t441 t442 t443) else (caliperlaw14_TransSigns.j1 kj5 t422 true t425 t426 t427 t428 t431 t432 t433 t434 t437 t438 t439 t440 t441 t442 t443)) else (caliperlaw14_TransSigns.j1 kj5 t422 true t425 t426 t427 t428 t431 t432 t433 t434 t437 t438 t439 t440 t441 t442 t443)) = some r := H
        have A13 := Aside0.mk A130
        clear A130
        have HC14 := Aside0.mk H
        clear H
        go_upto_region 11 with (first | ((with_reducible refine gate_callee (f := 12) rfl ?_); refine goesL_ (some 26) rfl rfl Tryd.func12 (by kernel_rfl) rfl #[.int .i64 a0, .int .i64 a1, .int .i64 x10_5, .int .u64 a3] rfl (by (try simp only [List.map_toArray, List.map_cons, List.map_nil]); first | done | rfl | (simp only [List.length_drop, List.length_take]; rfl)) ?_; (with_reducible refine (trans_Turn.calls kj5 a0 a1 x10_5 a3 t423 t424 _ ?side1 A9.out).mono ?_); (case side1 => exact Glob.below HG.out (by repeat (first | (with_reducible first | exact HB.out | apply below_alloc | apply pw_below_drewN | apply below_drew1) | exact HB.out))); rintro e w15 ⟨rfl, hb⟩; refine ⟨_, rfl, ?_⟩; have n0_ := Aside0.mk (below_step (by repeat (first | (with_reducible first | exact HB.out | apply below_alloc | apply pw_below_drewN | apply below_drew1) | exact HB.out)) hb); clear HB; have HB := n0_; clear n0_; (try clear hb); (try clear hb2); (try clear hk); (try clear hi)) | ((with_reducible refine gate_callee (f := 13) rfl ?_); refine goesL_ (some 39) rfl rfl Tryd.func13 (by kernel_rfl) rfl #[.int .i64 a0, .int .u64 a3] rfl (by (try simp only [List.map_toArray, List.map_cons, List.map_nil]); first | done | rfl | (simp only [List.length_drop, List.length_take]; rfl)) ?_; (with_reducible refine (value_Decode.calls a0 a3 t425 t426 t427 t428 t429 _ ?side1 A11.out).mono ?_); (case side1 => exact Glob.below HG.out (by repeat (first | (with_reducible first | exact HB.out | apply below_alloc | apply pw_below_drewN | apply below_drew1) | exact HB.out))); rintro e w16 ⟨rfl, hb⟩; refine ⟨_, rfl, ?_⟩; have n0_ := Aside0.mk (below_step (by repeat (first | (with_reducible first | exact HB.out | apply below_alloc | apply pw_below_drewN | apply below_drew1) | exact HB.out)) hb); clear HB; have HB := n0_; clear n0_; (try clear hb); (try clear hb2); (try clear hk); (try clear hi)) | ((with_reducible refine gate_dst (N := 13) rfl ?_); refine box_event ?hg (N := 13) ?hd (cs := #[.int .i64 0, .bool false, .int .u64 0, .int .i64 0]) (t := 31) ?hr ?_; (case hd => rfl); (case hg => rfl); (case hr => first | (go_simp; done) | (go_simp; rfl)); intro gb430 hg w17 hbox hb; have n0_ := Aside0.mk (below_step (by repeat (first | (with_reducible first | exact HB.out | apply below_alloc | apply pw_below_drewN | apply below_drew1) | exact HB.out)) hb); have n1_ := Aside0.mk (hbox); have n2_ := Aside0.mk ((by rw [hg]; exact (below_size (by repeat (first | (with_reducible first | exact HB.out | apply below_alloc | apply pw_below_drewN | apply below_drew1) | exact HB.out))) : w.heap.size ≤ gb430)); have n3_ := Aside0.mk ((by rw [hg]; exact (below_size (by repeat (first | (with_reducible first | exact HB.out | apply below_alloc | apply pw_below_drewN | apply below_drew1) | exact HB.out))) : w.heap.size ≤ gb430)); clear HB; have HB := n0_; have BK430 := n1_; have GW430 := n2_; have GE430 := n3_; clear n0_ n1_ n2_ n3_; clear hb hbox hg; have hcz18_0 : w17.cell? ⟨gb430, 0, none⟩ = some (.int .i64 0) := (blk_cell BK430.out 0).trans rfl; have hcz18_1 : w17.cell? ⟨gb430, 1, none⟩ = some (.bool false) := (blk_cell BK430.out 1).trans rfl; have hcz18_2 : w17.cell? ⟨gb430, 2, none⟩ = some (.int .u64 0) := (blk_cell BK430.out 2).trans rfl; have hcz18_3 : w17.cell? ⟨gb430, 3, none⟩ = some (.int .i64 0) := (blk_cell BK430.out 3).trans rfl; have hfz18_0 := blk_frozen BK430.out 0; have hfz18_1 := blk_frozen BK430.out 1; have hfz18_2 := blk_frozen BK430.out 2; have hfz18_3 := blk_frozen BK430.out 3) | ((with_reducible refine gate_callee (f := 13) rfl ?_); refine goesL_ (some 45) rfl rfl Tryd.func13 (by kernel_rfl) rfl #[.int .i64 a1, .int .u64 t423] rfl (by (try simp only [List.map_toArray, List.map_cons, List.map_nil]); first | done | rfl | (simp only [List.length_drop, List.length_take]; rfl)) ?_; (with_reducible refine (value_Decode.calls a1 t423 t431 t432 t433 t434 t435 _ ?side1 A12.out).mono ?_); (case side1 => exact Glob.below HG.out (by repeat (first | (with_reducible first | exact HB.out | apply below_alloc | apply pw_below_drewN | apply below_drew1 | refine below_set ?_ GE430.out) | exact HB.out))); rintro e w19 ⟨rfl, hb⟩; refine ⟨_, rfl, ?_⟩; have n0_ := Aside0.mk (blk_below (g := gb430) (o := .cells #[.int .i64 t425, .bool t426, .int .u64 t427, .int .i64 t428] 31 (0, 0)) (by (with_reducible repeat (first | refine blk_drewN ?_ _ | refine blk_drew ?_ | refine blk_alloc ?_ _)); refine blk_put (cs := #[.int .i64 t425, .bool t426, .int .u64 t427, .int .i64 0]) ?_ 3 _ rfl; (with_reducible repeat (first | refine blk_drewN ?_ _ | refine blk_drew ?_ | refine blk_alloc ?_ _)); refine blk_put (cs := #[.int .i64 t425, .bool t426, .int .u64 0, .int .i64 0]) ?_ 2 _ rfl; (with_reducible repeat (first | refine blk_drewN ?_ _ | refine blk_drew ?_ | refine blk_alloc ?_ _)); refine blk_put (cs := #[.int .i64 t425, .bool false, .int .u64 0, .int .i64 0]) ?_ 1 _ rfl; (with_reducible repeat (first | refine blk_drewN ?_ _ | refine blk_drew ?_ | refine blk_alloc ?_ _)); refine blk_put (cs := #[.int .i64 0, .bool false, .int .u64 0, .int .i64 0]) ?_ 0 _ rfl; (with_reducible repeat (first | refine blk_drewN ?_ _ | refine blk_drew ?_ | refine blk_alloc ?_ _)); exact BK430.out) hb); have n1_ := Aside0.mk (below_step (by repeat (first | (with_reducible first | exact HB.out | apply below_alloc | apply pw_below_drewN | apply below_drew1 | refine below_set ?_ GE430.out) | exact HB.out)) hb); clear BK430; clear HB; have BK430 := n0_; have HB := n1_; clear n0_ n1_; (try clear hb); (try clear hb2); (try clear hk); (try clear hi)) | ((with_reducible refine gate_dst (N := 15) rfl ?_); refine box_event ?hg (N := 15) ?hd (cs := #[.int .i64 0, .bool false, .int .u64 0, .int .i64 0]) (t := 31) ?hr ?_; (case hd => rfl); (case hg => rfl); (case hr => first | (go_simp; done) | (go_simp; rfl)); intro gb436 hg w20 hbox hb; have n0_ := Aside0.mk (blk_below (g := gb430) (o := .cells #[.int .i64 t425, .bool t426, .int .u64 t427, .int .i64 t428] 31 (0, 0)) (by (with_reducible repeat (first | refine blk_drewN ?_ _ | refine blk_drew ?_ | refine blk_alloc ?_ _)); exact BK430.out) hb); have n1_ := Aside0.mk (below_step (by repeat (first | (with_reducible first | exact HB.out | apply below_alloc | apply pw_below_drewN | apply below_drew1 | refine below_set ?_ GE430.out) | exact HB.out)) hb); have n2_ := Aside0.mk (hbox); have n3_ := Aside0.mk ((by rw [hg]; exact (below_size (by repeat (first | (with_reducible first | exact HB.out | apply below_alloc | apply pw_below_drewN | apply below_drew1 | refine below_set ?_ GE430.out) | exact HB.out))) : w.heap.size ≤ gb436)); have n4_ := Aside0.mk ((by rw [hg]; exact (below_size (by repeat (first | (with_reducible first | exact HB.out | apply below_alloc | apply pw_below_drewN | apply below_drew1 | refine below_set ?_ GE430.out) | exact HB.out))) : w.heap.size ≤ gb436)); have n5_ := Aside0.mk ((by rw [hg]; exact Nat.ne_of_lt (blk_lt (g := gb430) (o := .cells #[.int .i64 t425, .bool t426, .int .u64 t427, .int .i64 t428] 31 (0, 0)) (by (with_reducible repeat (first | refine blk_drewN ?_ _ | refine blk_drew ?_ | refine blk_alloc ?_ _)); exact BK430.out)) : gb430 ≠ gb436)); have n6_ := Aside0.mk ((by rw [hg]; exact Nat.ne_of_gt (blk_lt (g := gb430) (o := .cells #[.int .i64 t425, .bool t426, .int .u64 t427, .int .i64 t428] 31 (0, 0)) (by (with_reducible repeat (first | refine blk_drewN ?_ _ | refine blk_drew ?_ | refine blk_alloc ?_ _)); exact BK430.out)) : gb436 ≠ gb430)); clear BK430; clear HB; have BK430 := n0_; have HB := n1_; have BK436 := n2_; have GW436 := n3_; have GE436 := n4_; have NB430_436 := n5_; have NB436_430 := n6_; clear n0_ n1_ n2_ n3_ n4_ n5_ n6_; clear hb hbox hg; have hnb21 := NB436_430.out; have hnc21 := NB430_436.out; have hcz22_0 : w20.cell? ⟨gb436, 0, none⟩ = some (.int .i64 0) := (blk_cell BK436.out 0).trans rfl; have hcz22_1 : w20.cell? ⟨gb436, 1, none⟩ = some (.bool false) := (blk_cell BK436.out 1).trans rfl; have hcz22_2 : w20.cell? ⟨gb436, 2, none⟩ = some (.int .u64 0) := (blk_cell BK436.out 2).trans rfl; have hcz22_3 : w20.cell? ⟨gb436, 3, none⟩ = some (.int .i64 0) := (blk_cell BK436.out 3).trans rfl; have hfz22_0 := blk_frozen BK436.out 0; have hfz22_1 := blk_frozen BK436.out 1; have hfz22_2 := blk_frozen BK436.out 2; have hfz22_3 := blk_frozen BK436.out 3) | ((with_reducible refine gate_callee (f := 16) rfl ?_); refine goesL_ (some 50) rfl rfl Tryd.func16 (by kernel_rfl) rfl #[.int .i64 a1] rfl (by (try simp only [List.map_toArray, List.map_cons, List.map_nil]); first | done | rfl | (simp only [List.length_drop, List.length_take]; rfl)) ?_; (with_reducible refine (forms_Of.calls a1 t437 t438 t439 t440 t441 t442 t443 t444 _ ?side1 A13.out).mono ?_); (case side1 => exact Glob.below HG.out (by repeat (first | (with_reducible first | exact HB.out | apply below_alloc | apply pw_below_drewN | apply below_drew1 | refine below_set ?_ GE430.out | refine below_set ?_ GE436.out) | exact HB.out))); rintro e w23 ⟨rfl, hb⟩; refine ⟨_, rfl, ?_⟩; have n0_ := Aside0.mk (blk_below (g := gb430) (o := .cells #[.int .i64 t425, .bool t426, .int .u64 t427, .int .i64 t428] 31 (0, 0)) (by (with_reducible repeat (first | refine blk_drewN ?_ _ | refine blk_drew ?_ | refine blk_alloc ?_ _)); refine blk_far ?_ NB430_436.out _; (with_reducible repeat (first | refine blk_drewN ?_ _ | refine blk_drew ?_ | refine blk_alloc ?_ _)); refine blk_far ?_ NB430_436.out _; (with_reducible repeat (first | refine blk_drewN ?_ _ | refine blk_drew ?_ | refine blk_alloc ?_ _)); refine blk_far ?_ NB430_436.out _; (with_reducible repeat (first | refine blk_drewN ?_ _ | refine blk_drew ?_ | refine blk_alloc ?_ _)); refine blk_far ?_ NB430_436.out _; (with_reducible repeat (first | refine blk_drewN ?_ _ | refine blk_drew ?_ | refine blk_alloc ?_ _)); exact BK430.out) hb); have n1_ := Aside0.mk (blk_below (g := gb436) (o := .cells #[.int .i64 t431, .bool t432, .int .u64 t433, .int .i64 t434] 31 (0, 0)) (by (with_reducible repeat (first | refine blk_drewN ?_ _ | refine blk_drew ?_ | refine blk_alloc ?_ _)); refine blk_put (cs := #[.int .i64 t431, .bool t432, .int .u64 t433, .int .i64 0]) ?_ 3 _ rfl; (with_reducible repeat (first | refine blk_drewN ?_ _ | refine blk_drew ?_ | refine blk_alloc ?_ _)); refine blk_put (cs := #[.int .i64 t431, .bool t432, .int .u64 0, .int .i64 0]) ?_ 2 _ rfl; (with_reducible repeat (first | refine blk_drewN ?_ _ | refine blk_drew ?_ | refine blk_alloc ?_ _)); refine blk_put (cs := #[.int .i64 t431, .bool false, .int .u64 0, .int .i64 0]) ?_ 1 _ rfl; (with_reducible repeat (first | refine blk_drewN ?_ _ | refine blk_drew ?_ | refine blk_alloc ?_ _)); refine blk_put (cs := #[.int .i64 0, .bool false, .int .u64 0, .int .i64 0]) ?_ 0 _ rfl; (with_reducible repeat (first | refine blk_drewN ?_ _ | refine blk_drew ?_ | refine blk_alloc ?_ _)); exact BK436.out) hb); have n2_ := Aside0.mk (below_step (by repeat (first | (with_reducible first | exact HB.out | apply below_alloc | apply pw_below_drewN | apply below_drew1 | refine below_set ?_ GE430.out | refine below_set ?_ GE436.out) | exact HB.out)) hb); clear BK430; clear BK436; clear HB; have BK430 := n0_; have BK436 := n1_; have HB := n2_; clear n0_ n1_ n2_; (try clear hb); (try clear hb2); (try clear hk); (try clear hi)) | ((with_reducible refine gate_dst (N := 17) rfl ?_); refine box_event ?hg (N := 17) ?hd (cs := #[.int .i64 0, .int .i64 0, .int .i64 0, .int .i64 0, .int .u64 0, .int .u64 0, .int .u64 0]) (t := 44) ?hr ?_; (case hd => rfl); (case hg => rfl); (case hr => first | (go_simp; done) | (go_simp; rfl)); intro gb445 hg w24 hbox hb; have n0_ := Aside0.mk (blk_below (g := gb430) (o := .cells #[.int .i64 t425, .bool t426, .int .u64 t427, .int .i64 t428] 31 (0, 0)) (by (with_reducible repeat (first | refine blk_drewN ?_ _ | refine blk_drew ?_ | refine blk_alloc ?_ _)); exact BK430.out) hb); have n1_ := Aside0.mk (blk_below (g := gb436) (o := .cells #[.int .i64 t431, .bool t432, .int .u64 t433, .int .i64 t434] 31 (0, 0)) (by (with_reducible repeat (first | refine blk_drewN ?_ _ | refine blk_drew ?_ | refine blk_alloc ?_ _)); exact BK436.out) hb); have n2_ := Aside0.mk (below_step (by repeat (first | (with_reducible first | exact HB.out | apply below_alloc | apply pw_below_drewN | apply below_drew1 | refine below_set ?_ GE430.out | refine below_set ?_ GE436.out) | exact HB.out)) hb); have n3_ := Aside0.mk (hbox); have n4_ := Aside0.mk ((by rw [hg]; exact (below_size (by repeat (first | (with_reducible first | exact HB.out | apply below_alloc | apply pw_below_drewN | apply below_drew1 | refine below_set ?_ GE430.out | refine below_set ?_ GE436.out) | exact HB.out))) : w.heap.size ≤ gb445)); have n5_ := Aside0.mk ((by rw [hg]; exact (below_size (by repeat (first | (with_reducible first | exact HB.out | apply below_alloc | apply pw_below_drewN | apply below_drew1 | refine below_set ?_ GE430.out | refine below_set ?_ GE436.out) | exact HB.out))) : w.heap.size ≤ gb445)); have n6_ := Aside0.mk ((by rw [hg]; exact Nat.ne_of_lt (blk_lt (g := gb430) (o := .cells #[.int .i64 t425, .bool t426, .int .u64 t427, .int .i64 t428] 31 (0, 0)) (by (with_reducible repeat (first | refine blk_drewN ?_ _ | refine blk_drew ?_ | refine blk_alloc ?_ _)); exact BK430.out)) : gb430 ≠ gb445)); have n7_ := Aside0.mk ((by rw [hg]; exact Nat.ne_of_gt (blk_lt (g := gb430) (o := .cells #[.int .i64 t425, .bool t426, .int .u64 t427, .int .i64 t428] 31 (0, 0)) (by (with_reducible repeat (first | refine blk_drewN ?_ _ | refine blk_drew ?_ | refine blk_alloc ?_ _)); exact BK430.out)) : gb445 ≠ gb430)); have n8_ := Aside0.mk ((by rw [hg]; exact Nat.ne_of_lt (blk_lt (g := gb436) (o := .cells #[.int .i64 t431, .bool t432, .int .u64 t433, .int .i64 t434] 31 (0, 0)) (by (with_reducible repeat (first | refine blk_drewN ?_ _ | refine blk_drew ?_ | refine blk_alloc ?_ _)); exact BK436.out)) : gb436 ≠ gb445)); have n9_ := Aside0.mk ((by rw [hg]; exact Nat.ne_of_gt (blk_lt (g := gb436) (o := .cells #[.int .i64 t431, .bool t432, .int .u64 t433, .int .i64 t434] 31 (0, 0)) (by (with_reducible repeat (first | refine blk_drewN ?_ _ | refine blk_drew ?_ | refine blk_alloc ?_ _)); exact BK436.out)) : gb445 ≠ gb436)); clear BK430; clear BK436; clear HB; have BK430 := n0_; have BK436 := n1_; have HB := n2_; have BK445 := n3_; have GW445 := n4_; have GE445 := n5_; have NB430_445 := n6_; have NB445_430 := n7_; have NB436_445 := n8_; have NB445_436 := n9_; clear n0_ n1_ n2_ n3_ n4_ n5_ n6_ n7_ n8_ n9_; clear hb hbox hg; have hnb25 := NB445_430.out; have hnc25 := NB430_445.out; have hnb26 := NB445_436.out; have hnc26 := NB436_445.out; have hcz27_0 : w24.cell? ⟨gb445, 0, none⟩ = some (.int .i64 0) := (blk_cell BK445.out 0).trans rfl; have hcz27_1 : w24.cell? ⟨gb445, 1, none⟩ = some (.int .i64 0) := (blk_cell BK445.out 1).trans rfl; have hcz27_2 : w24.cell? ⟨gb445, 2, none⟩ = some (.int .i64 0) := (blk_cell BK445.out 2).trans rfl; have hcz27_3 : w24.cell? ⟨gb445, 3, none⟩ = some (.int .i64 0) := (blk_cell BK445.out 3).trans rfl; have hcz27_4 : w24.cell? ⟨gb445, 4, none⟩ = some (.int .u64 0) := (blk_cell BK445.out 4).trans rfl; have hcz27_5 : w24.cell? ⟨gb445, 5, none⟩ = some (.int .u64 0) := (blk_cell BK445.out 5).trans rfl; have hcz27_6 : w24.cell? ⟨gb445, 6, none⟩ = some (.int .u64 0) := (blk_cell BK445.out 6).trans rfl; have hfz27_0 := blk_frozen BK445.out 0; have hfz27_1 := blk_frozen BK445.out 1; have hfz27_2 := blk_frozen BK445.out 2; have hfz27_3 := blk_frozen BK445.out 3; have hfz27_4 := blk_frozen BK445.out 4; have hfz27_5 := blk_frozen BK445.out 5; have hfz27_6 := blk_frozen BK445.out 6))
        (try simp only [Act.put, List.setIfInBounds_toArray, List.set_cons_zero, List.set_cons_succ])
        go_cut [62] (fun v62 wc => ∃ (kq : Nat) (x62_13 : Bool), v62 = .bool x62_13 ∧ Aside0 (caliperlaw14_TransSigns.j1 kq t422 x62_13 t425 t426 t427 t428 t431 t432 t433 t434 t437 t438 t439 t440 t441 t442 t443 = some r) ∧ Aside0 (kq ≤ kj5) ∧ Aside0 (wc.heap[gb430]? = some (.cells #[.int .i64 t425, .bool t426, .int .u64 t427, .int .i64 t428] 31 (0, 0))) ∧ Aside0 (wc.heap[gb436]? = some (.cells #[.int .i64 t431, .bool t432, .int .u64 t433, .int .i64 t434] 31 (0, 0))) ∧ Aside0 (wc.heap[gb445]? = some (.cells #[.int .i64 t437, .int .i64 t438, .int .i64 t439, .int .i64 t440, .int .u64 t441, .int .u64 t442, .int .u64 t443] 44 (0, 0))) ∧ Aside0 (Below w.heap.size w wc))
        case first =>
          have H := HC14.out
          clear HC14
          by_cases c28 : t429 = 0
          · rw [if_pos c28] at H
            have c28b0 : (t429 == 0) = true := beq_iff_eq.mpr c28
            have c28b1 : (t429 != 0) = false := bne_eq_false_iff_eq.mpr c28
            clear c28
            (first | rw [c28b0] | (simp only [i64_w, i32_w]; rw [c28b0]) | skip)
            by_cases c29 : t435 = 0
            · rw [if_pos c29] at H
              have c29b0 : (t435 == 0) = true := beq_iff_eq.mpr c29
              have c29b1 : (t435 != 0) = false := bne_eq_false_iff_eq.mpr c29
              clear c29
              have H' := Aside0.mk H
              clear H
              go_wp2
              go_meet
              case rel => exact ⟨_, ((t444 != 0)), (by first | rfl | (simp; done) | (simp [*]; done)), H', ⟨by have := HJ5.out; first | omega | exact Nat.le_refl _⟩, ⟨by (with_reducible repeat (first | refine blk_drewN ?_ _ | refine blk_drew ?_ | refine blk_alloc ?_ _)); refine blk_far ?_ NB430_445.out _; (with_reducible repeat (first | refine blk_drewN ?_ _ | refine blk_drew ?_ | refine blk_alloc ?_ _)); refine blk_far ?_ NB430_445.out _; (with_reducible repeat (first | refine blk_drewN ?_ _ | refine blk_drew ?_ | refine blk_alloc ?_ _)); refine blk_far ?_ NB430_445.out _; (with_reducible repeat (first | refine blk_drewN ?_ _ | refine blk_drew ?_ | refine blk_alloc ?_ _)); refine blk_far ?_ NB430_445.out _; (with_reducible repeat (first | refine blk_drewN ?_ _ | refine blk_drew ?_ | refine blk_alloc ?_ _)); refine blk_far ?_ NB430_445.out _; (with_reducible repeat (first | refine blk_drewN ?_ _ | refine blk_drew ?_ | refine blk_alloc ?_ _)); refine blk_far ?_ NB430_445.out _; (with_reducible repeat (first | refine blk_drewN ?_ _ | refine blk_drew ?_ | refine blk_alloc ?_ _)); refine blk_far ?_ NB430_445.out _; (with_reducible repeat (first | refine blk_drewN ?_ _ | refine blk_drew ?_ | refine blk_alloc ?_ _)); exact BK430.out⟩, ⟨by (with_reducible repeat (first | refine blk_drewN ?_ _ | refine blk_drew ?_ | refine blk_alloc ?_ _)); refine blk_far ?_ NB436_445.out _; (with_reducible repeat (first | refine blk_drewN ?_ _ | refine blk_drew ?_ | refine blk_alloc ?_ _)); refine blk_far ?_ NB436_445.out _; (with_reducible repeat (first | refine blk_drewN ?_ _ | refine blk_drew ?_ | refine blk_alloc ?_ _)); refine blk_far ?_ NB436_445.out _; (with_reducible repeat (first | refine blk_drewN ?_ _ | refine blk_drew ?_ | refine blk_alloc ?_ _)); refine blk_far ?_ NB436_445.out _; (with_reducible repeat (first | refine blk_drewN ?_ _ | refine blk_drew ?_ | refine blk_alloc ?_ _)); refine blk_far ?_ NB436_445.out _; (with_reducible repeat (first | refine blk_drewN ?_ _ | refine blk_drew ?_ | refine blk_alloc ?_ _)); refine blk_far ?_ NB436_445.out _; (with_reducible repeat (first | refine blk_drewN ?_ _ | refine blk_drew ?_ | refine blk_alloc ?_ _)); refine blk_far ?_ NB436_445.out _; (with_reducible repeat (first | refine blk_drewN ?_ _ | refine blk_drew ?_ | refine blk_alloc ?_ _)); exact BK436.out⟩, ⟨by (with_reducible repeat (first | refine blk_drewN ?_ _ | refine blk_drew ?_ | refine blk_alloc ?_ _)); refine blk_put (cs := #[.int .i64 t437, .int .i64 t438, .int .i64 t439, .int .i64 t440, .int .u64 t441, .int .u64 t442, .int .u64 0]) ?_ 6 _ rfl; (with_reducible repeat (first | refine blk_drewN ?_ _ | refine blk_drew ?_ | refine blk_alloc ?_ _)); refine blk_put (cs := #[.int .i64 t437, .int .i64 t438, .int .i64 t439, .int .i64 t440, .int .u64 t441, .int .u64 0, .int .u64 0]) ?_ 5 _ rfl; (with_reducible repeat (first | refine blk_drewN ?_ _ | refine blk_drew ?_ | refine blk_alloc ?_ _)); refine blk_put (cs := #[.int .i64 t437, .int .i64 t438, .int .i64 t439, .int .i64 t440, .int .u64 0, .int .u64 0, .int .u64 0]) ?_ 4 _ rfl; (with_reducible repeat (first | refine blk_drewN ?_ _ | refine blk_drew ?_ | refine blk_alloc ?_ _)); refine blk_put (cs := #[.int .i64 t437, .int .i64 t438, .int .i64 t439, .int .i64 0, .int .u64 0, .int .u64 0, .int .u64 0]) ?_ 3 _ rfl; (with_reducible repeat (first | refine blk_drewN ?_ _ | refine blk_drew ?_ | refine blk_alloc ?_ _)); refine blk_put (cs := #[.int .i64 t437, .int .i64 t438, .int .i64 0, .int .i64 0, .int .u64 0, .int .u64 0, .int .u64 0]) ?_ 2 _ rfl; (with_reducible repeat (first | refine blk_drewN ?_ _ | refine blk_drew ?_ | refine blk_alloc ?_ _)); refine blk_put (cs := #[.int .i64 t437, .int .i64 0, .int .i64 0, .int .i64 0, .int .u64 0, .int .u64 0, .int .u64 0]) ?_ 1 _ rfl; (with_reducible repeat (first | refine blk_drewN ?_ _ | refine blk_drew ?_ | refine blk_alloc ?_ _)); refine blk_put (cs := #[.int .i64 0, .int .i64 0, .int .i64 0, .int .i64 0, .int .u64 0, .int .u64 0, .int .u64 0]) ?_ 0 _ rfl; (with_reducible repeat (first | refine blk_drewN ?_ _ | refine blk_drew ?_ | refine blk_alloc ?_ _)); exact BK445.out⟩, ⟨by repeat (first | (with_reducible first | exact HB.out | apply below_alloc | apply pw_below_drewN | apply below_drew1 | refine below_set ?_ GE430.out | refine below_set ?_ GE436.out | refine below_set ?_ GE445.out) | exact HB.out)⟩⟩
            · rw [if_neg c29] at H
              have c29b0 : (t435 == 0) = false := beq_eq_false_iff_ne.mpr c29
              have c29b1 : (t435 != 0) = true := bne_iff_ne.mpr c29
              have H' := Aside0.mk H
              clear H
              go_wp2
              go_meet
              case rel => exact ⟨_, (true), (by first | rfl | (simp; done) | (simp [*]; done)), H', ⟨by have := HJ5.out; first | omega | exact Nat.le_refl _⟩, ⟨by (with_reducible repeat (first | refine blk_drewN ?_ _ | refine blk_drew ?_ | refine blk_alloc ?_ _)); refine blk_far ?_ NB430_445.out _; (with_reducible repeat (first | refine blk_drewN ?_ _ | refine blk_drew ?_ | refine blk_alloc ?_ _)); refine blk_far ?_ NB430_445.out _; (with_reducible repeat (first | refine blk_drewN ?_ _ | refine blk_drew ?_ | refine blk_alloc ?_ _)); refine blk_far ?_ NB430_445.out _; (with_reducible repeat (first | refine blk_drewN ?_ _ | refine blk_drew ?_ | refine blk_alloc ?_ _)); refine blk_far ?_ NB430_445.out _; (with_reducible repeat (first | refine blk_drewN ?_ _ | refine blk_drew ?_ | refine blk_alloc ?_ _)); refine blk_far ?_ NB430_445.out _; (with_reducible repeat (first | refine blk_drewN ?_ _ | refine blk_drew ?_ | refine blk_alloc ?_ _)); refine blk_far ?_ NB430_445.out _; (with_reducible repeat (first | refine blk_drewN ?_ _ | refine blk_drew ?_ | refine blk_alloc ?_ _)); refine blk_far ?_ NB430_445.out _; (with_reducible repeat (first | refine blk_drewN ?_ _ | refine blk_drew ?_ | refine blk_alloc ?_ _)); exact BK430.out⟩, ⟨by (with_reducible repeat (first | refine blk_drewN ?_ _ | refine blk_drew ?_ | refine blk_alloc ?_ _)); refine blk_far ?_ NB436_445.out _; (with_reducible repeat (first | refine blk_drewN ?_ _ | refine blk_drew ?_ | refine blk_alloc ?_ _)); refine blk_far ?_ NB436_445.out _; (with_reducible repeat (first | refine blk_drewN ?_ _ | refine blk_drew ?_ | refine blk_alloc ?_ _)); refine blk_far ?_ NB436_445.out _; (with_reducible repeat (first | refine blk_drewN ?_ _ | refine blk_drew ?_ | refine blk_alloc ?_ _)); refine blk_far ?_ NB436_445.out _; (with_reducible repeat (first | refine blk_drewN ?_ _ | refine blk_drew ?_ | refine blk_alloc ?_ _)); refine blk_far ?_ NB436_445.out _; (with_reducible repeat (first | refine blk_drewN ?_ _ | refine blk_drew ?_ | refine blk_alloc ?_ _)); refine blk_far ?_ NB436_445.out _; (with_reducible repeat (first | refine blk_drewN ?_ _ | refine blk_drew ?_ | refine blk_alloc ?_ _)); refine blk_far ?_ NB436_445.out _; (with_reducible repeat (first | refine blk_drewN ?_ _ | refine blk_drew ?_ | refine blk_alloc ?_ _)); exact BK436.out⟩, ⟨by (with_reducible repeat (first | refine blk_drewN ?_ _ | refine blk_drew ?_ | refine blk_alloc ?_ _)); refine blk_put (cs := #[.int .i64 t437, .int .i64 t438, .int .i64 t439, .int .i64 t440, .int .u64 t441, .int .u64 t442, .int .u64 0]) ?_ 6 _ rfl; (with_reducible repeat (first | refine blk_drewN ?_ _ | refine blk_drew ?_ | refine blk_alloc ?_ _)); refine blk_put (cs := #[.int .i64 t437, .int .i64 t438, .int .i64 t439, .int .i64 t440, .int .u64 t441, .int .u64 0, .int .u64 0]) ?_ 5 _ rfl; (with_reducible repeat (first | refine blk_drewN ?_ _ | refine blk_drew ?_ | refine blk_alloc ?_ _)); refine blk_put (cs := #[.int .i64 t437, .int .i64 t438, .int .i64 t439, .int .i64 t440, .int .u64 0, .int .u64 0, .int .u64 0]) ?_ 4 _ rfl; (with_reducible repeat (first | refine blk_drewN ?_ _ | refine blk_drew ?_ | refine blk_alloc ?_ _)); refine blk_put (cs := #[.int .i64 t437, .int .i64 t438, .int .i64 t439, .int .i64 0, .int .u64 0, .int .u64 0, .int .u64 0]) ?_ 3 _ rfl; (with_reducible repeat (first | refine blk_drewN ?_ _ | refine blk_drew ?_ | refine blk_alloc ?_ _)); refine blk_put (cs := #[.int .i64 t437, .int .i64 t438, .int .i64 0, .int .i64 0, .int .u64 0, .int .u64 0, .int .u64 0]) ?_ 2 _ rfl; (with_reducible repeat (first | refine blk_drewN ?_ _ | refine blk_drew ?_ | refine blk_alloc ?_ _)); refine blk_put (cs := #[.int .i64 t437, .int .i64 0, .int .i64 0, .int .i64 0, .int .u64 0, .int .u64 0, .int .u64 0]) ?_ 1 _ rfl; (with_reducible repeat (first | refine blk_drewN ?_ _ | refine blk_drew ?_ | refine blk_alloc ?_ _)); refine blk_put (cs := #[.int .i64 0, .int .i64 0, .int .i64 0, .int .i64 0, .int .u64 0, .int .u64 0, .int .u64 0]) ?_ 0 _ rfl; (with_reducible repeat (first | refine blk_drewN ?_ _ | refine blk_drew ?_ | refine blk_alloc ?_ _)); exact BK445.out⟩, ⟨by repeat (first | (with_reducible first | exact HB.out | apply below_alloc | apply pw_below_drewN | apply below_drew1 | refine below_set ?_ GE430.out | refine below_set ?_ GE436.out | refine below_set ?_ GE445.out) | exact HB.out)⟩⟩
          · rw [if_neg c28] at H
            have c28b0 : (t429 == 0) = false := beq_eq_false_iff_ne.mpr c28
            have c28b1 : (t429 != 0) = true := bne_iff_ne.mpr c28
            (first | rw [c28b0] | (simp only [i64_w, i32_w]; rw [c28b0]) | skip)
            have H' := Aside0.mk H
            clear H
            go_wp2
            go_meet
            case rel => exact ⟨_, (true), (by first | rfl | (simp; done) | (simp [*]; done)), H', ⟨by have := HJ5.out; first | omega | exact Nat.le_refl _⟩, ⟨by (with_reducible repeat (first | refine blk_drewN ?_ _ | refine blk_drew ?_ | refine blk_alloc ?_ _)); refine blk_far ?_ NB430_445.out _; (with_reducible repeat (first | refine blk_drewN ?_ _ | refine blk_drew ?_ | refine blk_alloc ?_ _)); refine blk_far ?_ NB430_445.out _; (with_reducible repeat (first | refine blk_drewN ?_ _ | refine blk_drew ?_ | refine blk_alloc ?_ _)); refine blk_far ?_ NB430_445.out _; (with_reducible repeat (first | refine blk_drewN ?_ _ | refine blk_drew ?_ | refine blk_alloc ?_ _)); refine blk_far ?_ NB430_445.out _; (with_reducible repeat (first | refine blk_drewN ?_ _ | refine blk_drew ?_ | refine blk_alloc ?_ _)); refine blk_far ?_ NB430_445.out _; (with_reducible repeat (first | refine blk_drewN ?_ _ | refine blk_drew ?_ | refine blk_alloc ?_ _)); refine blk_far ?_ NB430_445.out _; (with_reducible repeat (first | refine blk_drewN ?_ _ | refine blk_drew ?_ | refine blk_alloc ?_ _)); refine blk_far ?_ NB430_445.out _; (with_reducible repeat (first | refine blk_drewN ?_ _ | refine blk_drew ?_ | refine blk_alloc ?_ _)); exact BK430.out⟩, ⟨by (with_reducible repeat (first | refine blk_drewN ?_ _ | refine blk_drew ?_ | refine blk_alloc ?_ _)); refine blk_far ?_ NB436_445.out _; (with_reducible repeat (first | refine blk_drewN ?_ _ | refine blk_drew ?_ | refine blk_alloc ?_ _)); refine blk_far ?_ NB436_445.out _; (with_reducible repeat (first | refine blk_drewN ?_ _ | refine blk_drew ?_ | refine blk_alloc ?_ _)); refine blk_far ?_ NB436_445.out _; (with_reducible repeat (first | refine blk_drewN ?_ _ | refine blk_drew ?_ | refine blk_alloc ?_ _)); refine blk_far ?_ NB436_445.out _; (with_reducible repeat (first | refine blk_drewN ?_ _ | refine blk_drew ?_ | refine blk_alloc ?_ _)); refine blk_far ?_ NB436_445.out _; (with_reducible repeat (first | refine blk_drewN ?_ _ | refine blk_drew ?_ | refine blk_alloc ?_ _)); refine blk_far ?_ NB436_445.out _; (with_reducible repeat (first | refine blk_drewN ?_ _ | refine blk_drew ?_ | refine blk_alloc ?_ _)); refine blk_far ?_ NB436_445.out _; (with_reducible repeat (first | refine blk_drewN ?_ _ | refine blk_drew ?_ | refine blk_alloc ?_ _)); exact BK436.out⟩, ⟨by (with_reducible repeat (first | refine blk_drewN ?_ _ | refine blk_drew ?_ | refine blk_alloc ?_ _)); refine blk_put (cs := #[.int .i64 t437, .int .i64 t438, .int .i64 t439, .int .i64 t440, .int .u64 t441, .int .u64 t442, .int .u64 0]) ?_ 6 _ rfl; (with_reducible repeat (first | refine blk_drewN ?_ _ | refine blk_drew ?_ | refine blk_alloc ?_ _)); refine blk_put (cs := #[.int .i64 t437, .int .i64 t438, .int .i64 t439, .int .i64 t440, .int .u64 t441, .int .u64 0, .int .u64 0]) ?_ 5 _ rfl; (with_reducible repeat (first | refine blk_drewN ?_ _ | refine blk_drew ?_ | refine blk_alloc ?_ _)); refine blk_put (cs := #[.int .i64 t437, .int .i64 t438, .int .i64 t439, .int .i64 t440, .int .u64 0, .int .u64 0, .int .u64 0]) ?_ 4 _ rfl; (with_reducible repeat (first | refine blk_drewN ?_ _ | refine blk_drew ?_ | refine blk_alloc ?_ _)); refine blk_put (cs := #[.int .i64 t437, .int .i64 t438, .int .i64 t439, .int .i64 0, .int .u64 0, .int .u64 0, .int .u64 0]) ?_ 3 _ rfl; (with_reducible repeat (first | refine blk_drewN ?_ _ | refine blk_drew ?_ | refine blk_alloc ?_ _)); refine blk_put (cs := #[.int .i64 t437, .int .i64 t438, .int .i64 0, .int .i64 0, .int .u64 0, .int .u64 0, .int .u64 0]) ?_ 2 _ rfl; (with_reducible repeat (first | refine blk_drewN ?_ _ | refine blk_drew ?_ | refine blk_alloc ?_ _)); refine blk_put (cs := #[.int .i64 t437, .int .i64 0, .int .i64 0, .int .i64 0, .int .u64 0, .int .u64 0, .int .u64 0]) ?_ 1 _ rfl; (with_reducible repeat (first | refine blk_drewN ?_ _ | refine blk_drew ?_ | refine blk_alloc ?_ _)); refine blk_put (cs := #[.int .i64 0, .int .i64 0, .int .i64 0, .int .i64 0, .int .u64 0, .int .u64 0, .int .u64 0]) ?_ 0 _ rfl; (with_reducible repeat (first | refine blk_drewN ?_ _ | refine blk_drew ?_ | refine blk_alloc ?_ _)); exact BK445.out⟩, ⟨by repeat (first | (with_reducible first | exact HB.out | apply below_alloc | apply pw_below_drewN | apply below_drew1 | refine below_set ?_ GE430.out | refine below_set ?_ GE436.out | refine below_set ?_ GE445.out) | exact HB.out)⟩⟩
        case rest =>
          clear HC14
          try clear c1
          try clear c2
          try clear p2
          try clear c6
          try clear c8
          try clear c10
          try clear c10b0
          try clear c10b1
          try clear c12
          try clear c13
          try clear c16
          try clear c21
          try clear c25
          try clear c26
          try clear c28
          try clear c28b0
          try clear c28b1
          try clear c29
          try clear c29b0
          try clear c29b1
          try clear hcz18_0
          try clear hcz18_1
          try clear hcz18_2
          try clear hcz18_3
          try clear hcz22_0
          try clear hcz22_1
          try clear hcz22_2
          try clear hcz22_3
          try clear hcz27_0
          try clear hcz27_1
          try clear hcz27_2
          try clear hcz27_3
          try clear hcz27_4
          try clear hcz27_5
          try clear hcz27_6
          try clear hfz18_0
          try clear hfz18_1
          try clear hfz18_2
          try clear hfz18_3
          try clear hfz22_0
          try clear hfz22_1
          try clear hfz22_2
          try clear hfz22_3
          try clear hfz27_0
          try clear hfz27_1
          try clear hfz27_2
          try clear hfz27_3
          try clear hfz27_4
          try clear hfz27_5
          try clear hfz27_6
          try clear p2
          obtain ⟨kq, x62_13, rfl, HA, HJ13, BK430, BK436, BK445, HB⟩ := hcut
          cases kq with
          | zero => exact absurd HA.out (by simp [caliperlaw14_TransSigns.j1])
          | succ kj13 =>
            have H := HA.out
            clear HA
            simp only [caliperlaw14_TransSigns.j1] at H
            by_cases c30 : x62_13 = true
            · subst c30
              have H1 : (some false) = some r := by rw [if_pos rfl] at H; exact H
              clear H
              have H := H1
              clear H1
              obtain rfl := Option.some.inj H
              go_wp2
              go_ret
              exact ⟨by first | rfl | (simp [errW_none, errW_some] <;> rfl) | (simp [*, errW_none, errW_some] <;> rfl), by repeat (first | (with_reducible first | exact HB.out | apply below_alloc | apply pw_below_drewN | apply below_drew1 | refine below_set ?_ GE430.out | refine below_set ?_ GE436.out | refine below_set ?_ GE445.out) | exact HB.out)⟩
            · replace c30 := Bool.eq_false_iff.mpr c30
              subst c30
              have H1 : (if t431 = 4 then (if t422 = true then (some (!t432)) else (some false)) else (if t425 = 4 then (if t422 = true then (some (!t432)) else (some false)) else (if t431 = 1 then (if t437 = 2 then (if t422 = true then (some (t432 == t426)) else (some false)) else (if t422 = true then (some (!t432)) else (some false))) else (if t422 = true then (some (t432 == t426)) else (some false))))) = some r := by rw [if_neg (show ¬ (false = true) by decide)] at H; exact H
              clear H
              have H := H1
              clear H1
              by_cases c31 : t431 = 4
              · rw [if_pos c31] at H
                have c31b0 : (t431 == 4) = true := beq_iff_eq.mpr c31
                have c31b1 : (t431 != 4) = false := bne_eq_false_iff_eq.mpr c31
                clear c31
                by_cases c32 : t422 = true
                · subst c32
                  have H1 : (some (!t432)) = some r := by rw [if_pos rfl] at H; exact H
                  clear H
                  have H := H1
                  clear H1
                  obtain rfl := Option.some.inj H
                  have hnb33 := NB436_430.out
                  have hnc33 := NB430_436.out
                  have hnb34 := NB436_445.out
                  have hnc34 := NB445_436.out
                  have hcz35_0 : wc.cell? ⟨gb436, 0, none⟩ = some (.int .i64 t431) := (blk_cell BK436.out 0).trans rfl
                  have hcz35_1 : wc.cell? ⟨gb436, 1, none⟩ = some (.bool t432) := (blk_cell BK436.out 1).trans rfl
                  have hcz35_2 : wc.cell? ⟨gb436, 2, none⟩ = some (.int .u64 t433) := (blk_cell BK436.out 2).trans rfl
                  have hcz35_3 : wc.cell? ⟨gb436, 3, none⟩ = some (.int .i64 t434) := (blk_cell BK436.out 3).trans rfl
                  have hfz35_0 := blk_frozen BK436.out 0
                  have hfz35_1 := blk_frozen BK436.out 1
                  have hfz35_2 := blk_frozen BK436.out 2
                  have hfz35_3 := blk_frozen BK436.out 3
                  go_wp2
                  go_ret
                  exact ⟨by first | rfl | (simp [errW_none, errW_some] <;> rfl) | (simp [*, errW_none, errW_some] <;> rfl), by repeat (first | (with_reducible first | exact HB.out | apply below_alloc | apply pw_below_drewN | apply below_drew1 | refine below_set ?_ GE430.out | refine below_set ?_ GE436.out | refine below_set ?_ GE445.out) | exact HB.out)⟩
                · replace c32 := Bool.eq_false_iff.mpr c32
                  subst c32
                  have H1 : (some false) = some r := by rw [if_neg (show ¬ (false = true) by decide)] at H; exact H
                  clear H
                  have H := H1
                  clear H1
                  obtain rfl := Option.some.inj H
                  have hnb36 := NB436_430.out
                  have hnc36 := NB430_436.out
                  have hnb37 := NB436_445.out
                  have hnc37 := NB445_436.out
                  have hcz38_0 : wc.cell? ⟨gb436, 0, none⟩ = some (.int .i64 t431) := (blk_cell BK436.out 0).trans rfl
                  have hcz38_1 : wc.cell? ⟨gb436, 1, none⟩ = some (.bool t432) := (blk_cell BK436.out 1).trans rfl
                  have hcz38_2 : wc.cell? ⟨gb436, 2, none⟩ = some (.int .u64 t433) := (blk_cell BK436.out 2).trans rfl
                  have hcz38_3 : wc.cell? ⟨gb436, 3, none⟩ = some (.int .i64 t434) := (blk_cell BK436.out 3).trans rfl
                  have hfz38_0 := blk_frozen BK436.out 0
                  have hfz38_1 := blk_frozen BK436.out 1
                  have hfz38_2 := blk_frozen BK436.out 2
                  have hfz38_3 := blk_frozen BK436.out 3
                  go_wp2
                  go_ret
                  exact ⟨by first | rfl | (simp [errW_none, errW_some] <;> rfl) | (simp [*, errW_none, errW_some] <;> rfl), by repeat (first | (with_reducible first | exact HB.out | apply below_alloc | apply pw_below_drewN | apply below_drew1 | refine below_set ?_ GE430.out | refine below_set ?_ GE436.out | refine below_set ?_ GE445.out) | exact HB.out)⟩
              · rw [if_neg c31] at H
                have c31b0 : (t431 == 4) = false := beq_eq_false_iff_ne.mpr c31
                have c31b1 : (t431 != 4) = true := bne_iff_ne.mpr c31
                by_cases c39 : t425 = 4
                · rw [if_pos c39] at H
                  have c39b0 : (t425 == 4) = true := beq_iff_eq.mpr c39
                  have c39b1 : (t425 != 4) = false := bne_eq_false_iff_eq.mpr c39
                  clear c39
                  by_cases c40 : t422 = true
                  · subst c40
                    have H1 : (some (!t432)) = some r := by rw [if_pos rfl] at H; exact H
                    clear H
                    have H := H1
                    clear H1
                    obtain rfl := Option.some.inj H
                    have hnb41 := NB436_430.out
                    have hnc41 := NB430_436.out
                    have hnb42 := NB436_445.out
                    have hnc42 := NB445_436.out
                    have hcz43_0 : wc.cell? ⟨gb436, 0, none⟩ = some (.int .i64 t431) := (blk_cell BK436.out 0).trans rfl
                    have hcz43_1 : wc.cell? ⟨gb436, 1, none⟩ = some (.bool t432) := (blk_cell BK436.out 1).trans rfl
                    have hcz43_2 : wc.cell? ⟨gb436, 2, none⟩ = some (.int .u64 t433) := (blk_cell BK436.out 2).trans rfl
                    have hcz43_3 : wc.cell? ⟨gb436, 3, none⟩ = some (.int .i64 t434) := (blk_cell BK436.out 3).trans rfl
                    have hfz43_0 := blk_frozen BK436.out 0
                    have hfz43_1 := blk_frozen BK436.out 1
                    have hfz43_2 := blk_frozen BK436.out 2
                    have hfz43_3 := blk_frozen BK436.out 3
                    have hnb44 := NB430_445.out
                    have hnc44 := NB445_430.out
                    have hcz45_0 : wc.cell? ⟨gb430, 0, none⟩ = some (.int .i64 t425) := (blk_cell BK430.out 0).trans rfl
                    have hcz45_1 : wc.cell? ⟨gb430, 1, none⟩ = some (.bool t426) := (blk_cell BK430.out 1).trans rfl
                    have hcz45_2 : wc.cell? ⟨gb430, 2, none⟩ = some (.int .u64 t427) := (blk_cell BK430.out 2).trans rfl
                    have hcz45_3 : wc.cell? ⟨gb430, 3, none⟩ = some (.int .i64 t428) := (blk_cell BK430.out 3).trans rfl
                    have hfz45_0 := blk_frozen BK430.out 0
                    have hfz45_1 := blk_frozen BK430.out 1
                    have hfz45_2 := blk_frozen BK430.out 2
                    have hfz45_3 := blk_frozen BK430.out 3
                    go_wp2
                    go_ret
                    exact ⟨by first | rfl | (simp [errW_none, errW_some] <;> rfl) | (simp [*, errW_none, errW_some] <;> rfl), by repeat (first | (with_reducible first | exact HB.out | apply below_alloc | apply pw_below_drewN | apply below_drew1 | refine below_set ?_ GE430.out | refine below_set ?_ GE436.out | refine below_set ?_ GE445.out) | exact HB.out)⟩
                  · replace c40 := Bool.eq_false_iff.mpr c40
                    subst c40
                    have H1 : (some false) = some r := by rw [if_neg (show ¬ (false = true) by decide)] at H; exact H
                    clear H
                    have H := H1
                    clear H1
                    obtain rfl := Option.some.inj H
                    have hnb46 := NB436_430.out
                    have hnc46 := NB430_436.out
                    have hnb47 := NB436_445.out
                    have hnc47 := NB445_436.out
                    have hcz48_0 : wc.cell? ⟨gb436, 0, none⟩ = some (.int .i64 t431) := (blk_cell BK436.out 0).trans rfl
                    have hcz48_1 : wc.cell? ⟨gb436, 1, none⟩ = some (.bool t432) := (blk_cell BK436.out 1).trans rfl
                    have hcz48_2 : wc.cell? ⟨gb436, 2, none⟩ = some (.int .u64 t433) := (blk_cell BK436.out 2).trans rfl
                    have hcz48_3 : wc.cell? ⟨gb436, 3, none⟩ = some (.int .i64 t434) := (blk_cell BK436.out 3).trans rfl
                    have hfz48_0 := blk_frozen BK436.out 0
                    have hfz48_1 := blk_frozen BK436.out 1
                    have hfz48_2 := blk_frozen BK436.out 2
                    have hfz48_3 := blk_frozen BK436.out 3
                    have hnb49 := NB430_445.out
                    have hnc49 := NB445_430.out
                    have hcz50_0 : wc.cell? ⟨gb430, 0, none⟩ = some (.int .i64 t425) := (blk_cell BK430.out 0).trans rfl
                    have hcz50_1 : wc.cell? ⟨gb430, 1, none⟩ = some (.bool t426) := (blk_cell BK430.out 1).trans rfl
                    have hcz50_2 : wc.cell? ⟨gb430, 2, none⟩ = some (.int .u64 t427) := (blk_cell BK430.out 2).trans rfl
                    have hcz50_3 : wc.cell? ⟨gb430, 3, none⟩ = some (.int .i64 t428) := (blk_cell BK430.out 3).trans rfl
                    have hfz50_0 := blk_frozen BK430.out 0
                    have hfz50_1 := blk_frozen BK430.out 1
                    have hfz50_2 := blk_frozen BK430.out 2
                    have hfz50_3 := blk_frozen BK430.out 3
                    go_wp2
                    go_ret
                    exact ⟨by first | rfl | (simp [errW_none, errW_some] <;> rfl) | (simp [*, errW_none, errW_some] <;> rfl), by repeat (first | (with_reducible first | exact HB.out | apply below_alloc | apply pw_below_drewN | apply below_drew1 | refine below_set ?_ GE430.out | refine below_set ?_ GE436.out | refine below_set ?_ GE445.out) | exact HB.out)⟩
                · rw [if_neg c39] at H
                  have c39b0 : (t425 == 4) = false := beq_eq_false_iff_ne.mpr c39
                  have c39b1 : (t425 != 4) = true := bne_iff_ne.mpr c39
                  by_cases c51 : t431 = 1
                  · rw [if_pos c51] at H
                    have c51b0 : (t431 == 1) = true := beq_iff_eq.mpr c51
                    have c51b1 : (t431 != 1) = false := bne_eq_false_iff_eq.mpr c51
                    clear c51
                    by_cases c52 : t437 = 2
                    · rw [if_pos c52] at H
                      have c52b0 : (t437 == 2) = true := beq_iff_eq.mpr c52
                      have c52b1 : (t437 != 2) = false := bne_eq_false_iff_eq.mpr c52
                      clear c52
                      by_cases c53 : t422 = true
                      · subst c53
                        have H1 : (some (t432 == t426)) = some r := by rw [if_pos rfl] at H; exact H
                        clear H
                        have H := H1
                        clear H1
                        obtain rfl := Option.some.inj H
                        have hnb54 := NB436_430.out
                        have hnc54 := NB430_436.out
                        have hnb55 := NB436_445.out
                        have hnc55 := NB445_436.out
                        have hcz56_0 : wc.cell? ⟨gb436, 0, none⟩ = some (.int .i64 t431) := (blk_cell BK436.out 0).trans rfl
                        have hcz56_1 : wc.cell? ⟨gb436, 1, none⟩ = some (.bool t432) := (blk_cell BK436.out 1).trans rfl
                        have hcz56_2 : wc.cell? ⟨gb436, 2, none⟩ = some (.int .u64 t433) := (blk_cell BK436.out 2).trans rfl
                        have hcz56_3 : wc.cell? ⟨gb436, 3, none⟩ = some (.int .i64 t434) := (blk_cell BK436.out 3).trans rfl
                        have hfz56_0 := blk_frozen BK436.out 0
                        have hfz56_1 := blk_frozen BK436.out 1
                        have hfz56_2 := blk_frozen BK436.out 2
                        have hfz56_3 := blk_frozen BK436.out 3
                        have hnb57 := NB430_445.out
                        have hnc57 := NB445_430.out
                        have hcz58_0 : wc.cell? ⟨gb430, 0, none⟩ = some (.int .i64 t425) := (blk_cell BK430.out 0).trans rfl
                        have hcz58_1 : wc.cell? ⟨gb430, 1, none⟩ = some (.bool t426) := (blk_cell BK430.out 1).trans rfl
                        have hcz58_2 : wc.cell? ⟨gb430, 2, none⟩ = some (.int .u64 t427) := (blk_cell BK430.out 2).trans rfl
                        have hcz58_3 : wc.cell? ⟨gb430, 3, none⟩ = some (.int .i64 t428) := (blk_cell BK430.out 3).trans rfl
                        have hfz58_0 := blk_frozen BK430.out 0
                        have hfz58_1 := blk_frozen BK430.out 1
                        have hfz58_2 := blk_frozen BK430.out 2
                        have hfz58_3 := blk_frozen BK430.out 3
                        have hcz59_0 : wc.cell? ⟨gb445, 0, none⟩ = some (.int .i64 t437) := (blk_cell BK445.out 0).trans rfl
                        have hcz59_1 : wc.cell? ⟨gb445, 1, none⟩ = some (.int .i64 t438) := (blk_cell BK445.out 1).trans rfl
                        have hcz59_2 : wc.cell? ⟨gb445, 2, none⟩ = some (.int .i64 t439) := (blk_cell BK445.out 2).trans rfl
                        have hcz59_3 : wc.cell? ⟨gb445, 3, none⟩ = some (.int .i64 t440) := (blk_cell BK445.out 3).trans rfl
                        have hcz59_4 : wc.cell? ⟨gb445, 4, none⟩ = some (.int .u64 t441) := (blk_cell BK445.out 4).trans rfl
                        have hcz59_5 : wc.cell? ⟨gb445, 5, none⟩ = some (.int .u64 t442) := (blk_cell BK445.out 5).trans rfl
                        have hcz59_6 : wc.cell? ⟨gb445, 6, none⟩ = some (.int .u64 t443) := (blk_cell BK445.out 6).trans rfl
                        have hfz59_0 := blk_frozen BK445.out 0
                        have hfz59_1 := blk_frozen BK445.out 1
                        have hfz59_2 := blk_frozen BK445.out 2
                        have hfz59_3 := blk_frozen BK445.out 3
                        have hfz59_4 := blk_frozen BK445.out 4
                        have hfz59_5 := blk_frozen BK445.out 5
                        have hfz59_6 := blk_frozen BK445.out 6
                        go_wp2
                        go_ret
                        exact ⟨by first | rfl | (simp [errW_none, errW_some] <;> rfl) | (simp [*, errW_none, errW_some] <;> rfl), by repeat (first | (with_reducible first | exact HB.out | apply below_alloc | apply pw_below_drewN | apply below_drew1 | refine below_set ?_ GE430.out | refine below_set ?_ GE436.out | refine below_set ?_ GE445.out) | exact HB.out)⟩
                      · replace c53 := Bool.eq_false_iff.mpr c53
                        subst c53
                        have H1 : (some false) = some r := by rw [if_neg (show ¬ (false = true) by decide)] at H; exact H
                        clear H
                        have H := H1
                        clear H1
                        obtain rfl := Option.some.inj H
                        have hnb60 := NB436_430.out
                        have hnc60 := NB430_436.out
                        have hnb61 := NB436_445.out
                        have hnc61 := NB445_436.out
                        have hcz62_0 : wc.cell? ⟨gb436, 0, none⟩ = some (.int .i64 t431) := (blk_cell BK436.out 0).trans rfl
                        have hcz62_1 : wc.cell? ⟨gb436, 1, none⟩ = some (.bool t432) := (blk_cell BK436.out 1).trans rfl
                        have hcz62_2 : wc.cell? ⟨gb436, 2, none⟩ = some (.int .u64 t433) := (blk_cell BK436.out 2).trans rfl
                        have hcz62_3 : wc.cell? ⟨gb436, 3, none⟩ = some (.int .i64 t434) := (blk_cell BK436.out 3).trans rfl
                        have hfz62_0 := blk_frozen BK436.out 0
                        have hfz62_1 := blk_frozen BK436.out 1
                        have hfz62_2 := blk_frozen BK436.out 2
                        have hfz62_3 := blk_frozen BK436.out 3
                        have hnb63 := NB430_445.out
                        have hnc63 := NB445_430.out
                        have hcz64_0 : wc.cell? ⟨gb430, 0, none⟩ = some (.int .i64 t425) := (blk_cell BK430.out 0).trans rfl
                        have hcz64_1 : wc.cell? ⟨gb430, 1, none⟩ = some (.bool t426) := (blk_cell BK430.out 1).trans rfl
                        have hcz64_2 : wc.cell? ⟨gb430, 2, none⟩ = some (.int .u64 t427) := (blk_cell BK430.out 2).trans rfl
                        have hcz64_3 : wc.cell? ⟨gb430, 3, none⟩ = some (.int .i64 t428) := (blk_cell BK430.out 3).trans rfl
                        have hfz64_0 := blk_frozen BK430.out 0
                        have hfz64_1 := blk_frozen BK430.out 1
                        have hfz64_2 := blk_frozen BK430.out 2
                        have hfz64_3 := blk_frozen BK430.out 3
                        have hcz65_0 : wc.cell? ⟨gb445, 0, none⟩ = some (.int .i64 t437) := (blk_cell BK445.out 0).trans rfl
                        have hcz65_1 : wc.cell? ⟨gb445, 1, none⟩ = some (.int .i64 t438) := (blk_cell BK445.out 1).trans rfl
                        have hcz65_2 : wc.cell? ⟨gb445, 2, none⟩ = some (.int .i64 t439) := (blk_cell BK445.out 2).trans rfl
                        have hcz65_3 : wc.cell? ⟨gb445, 3, none⟩ = some (.int .i64 t440) := (blk_cell BK445.out 3).trans rfl
                        have hcz65_4 : wc.cell? ⟨gb445, 4, none⟩ = some (.int .u64 t441) := (blk_cell BK445.out 4).trans rfl
                        have hcz65_5 : wc.cell? ⟨gb445, 5, none⟩ = some (.int .u64 t442) := (blk_cell BK445.out 5).trans rfl
                        have hcz65_6 : wc.cell? ⟨gb445, 6, none⟩ = some (.int .u64 t443) := (blk_cell BK445.out 6).trans rfl
                        have hfz65_0 := blk_frozen BK445.out 0
                        have hfz65_1 := blk_frozen BK445.out 1
                        have hfz65_2 := blk_frozen BK445.out 2
                        have hfz65_3 := blk_frozen BK445.out 3
                        have hfz65_4 := blk_frozen BK445.out 4
                        have hfz65_5 := blk_frozen BK445.out 5
                        have hfz65_6 := blk_frozen BK445.out 6
                        go_wp2
                        go_ret
                        exact ⟨by first | rfl | (simp [errW_none, errW_some] <;> rfl) | (simp [*, errW_none, errW_some] <;> rfl), by repeat (first | (with_reducible first | exact HB.out | apply below_alloc | apply pw_below_drewN | apply below_drew1 | refine below_set ?_ GE430.out | refine below_set ?_ GE436.out | refine below_set ?_ GE445.out) | exact HB.out)⟩
                    · rw [if_neg c52] at H
                      have c52b0 : (t437 == 2) = false := beq_eq_false_iff_ne.mpr c52
                      have c52b1 : (t437 != 2) = true := bne_iff_ne.mpr c52
                      by_cases c66 : t422 = true
                      · subst c66
                        have H1 : (some (!t432)) = some r := by rw [if_pos rfl] at H; exact H
                        clear H
                        have H := H1
                        clear H1
                        obtain rfl := Option.some.inj H
                        have hnb67 := NB436_430.out
                        have hnc67 := NB430_436.out
                        have hnb68 := NB436_445.out
                        have hnc68 := NB445_436.out
                        have hcz69_0 : wc.cell? ⟨gb436, 0, none⟩ = some (.int .i64 t431) := (blk_cell BK436.out 0).trans rfl
                        have hcz69_1 : wc.cell? ⟨gb436, 1, none⟩ = some (.bool t432) := (blk_cell BK436.out 1).trans rfl
                        have hcz69_2 : wc.cell? ⟨gb436, 2, none⟩ = some (.int .u64 t433) := (blk_cell BK436.out 2).trans rfl
                        have hcz69_3 : wc.cell? ⟨gb436, 3, none⟩ = some (.int .i64 t434) := (blk_cell BK436.out 3).trans rfl
                        have hfz69_0 := blk_frozen BK436.out 0
                        have hfz69_1 := blk_frozen BK436.out 1
                        have hfz69_2 := blk_frozen BK436.out 2
                        have hfz69_3 := blk_frozen BK436.out 3
                        have hnb70 := NB430_445.out
                        have hnc70 := NB445_430.out
                        have hcz71_0 : wc.cell? ⟨gb430, 0, none⟩ = some (.int .i64 t425) := (blk_cell BK430.out 0).trans rfl
                        have hcz71_1 : wc.cell? ⟨gb430, 1, none⟩ = some (.bool t426) := (blk_cell BK430.out 1).trans rfl
                        have hcz71_2 : wc.cell? ⟨gb430, 2, none⟩ = some (.int .u64 t427) := (blk_cell BK430.out 2).trans rfl
                        have hcz71_3 : wc.cell? ⟨gb430, 3, none⟩ = some (.int .i64 t428) := (blk_cell BK430.out 3).trans rfl
                        have hfz71_0 := blk_frozen BK430.out 0
                        have hfz71_1 := blk_frozen BK430.out 1
                        have hfz71_2 := blk_frozen BK430.out 2
                        have hfz71_3 := blk_frozen BK430.out 3
                        have hcz72_0 : wc.cell? ⟨gb445, 0, none⟩ = some (.int .i64 t437) := (blk_cell BK445.out 0).trans rfl
                        have hcz72_1 : wc.cell? ⟨gb445, 1, none⟩ = some (.int .i64 t438) := (blk_cell BK445.out 1).trans rfl
                        have hcz72_2 : wc.cell? ⟨gb445, 2, none⟩ = some (.int .i64 t439) := (blk_cell BK445.out 2).trans rfl
                        have hcz72_3 : wc.cell? ⟨gb445, 3, none⟩ = some (.int .i64 t440) := (blk_cell BK445.out 3).trans rfl
                        have hcz72_4 : wc.cell? ⟨gb445, 4, none⟩ = some (.int .u64 t441) := (blk_cell BK445.out 4).trans rfl
                        have hcz72_5 : wc.cell? ⟨gb445, 5, none⟩ = some (.int .u64 t442) := (blk_cell BK445.out 5).trans rfl
                        have hcz72_6 : wc.cell? ⟨gb445, 6, none⟩ = some (.int .u64 t443) := (blk_cell BK445.out 6).trans rfl
                        have hfz72_0 := blk_frozen BK445.out 0
                        have hfz72_1 := blk_frozen BK445.out 1
                        have hfz72_2 := blk_frozen BK445.out 2
                        have hfz72_3 := blk_frozen BK445.out 3
                        have hfz72_4 := blk_frozen BK445.out 4
                        have hfz72_5 := blk_frozen BK445.out 5
                        have hfz72_6 := blk_frozen BK445.out 6
                        go_wp2
                        go_ret
                        exact ⟨by first | rfl | (simp [errW_none, errW_some] <;> rfl) | (simp [*, errW_none, errW_some] <;> rfl), by repeat (first | (with_reducible first | exact HB.out | apply below_alloc | apply pw_below_drewN | apply below_drew1 | refine below_set ?_ GE430.out | refine below_set ?_ GE436.out | refine below_set ?_ GE445.out) | exact HB.out)⟩
                      · replace c66 := Bool.eq_false_iff.mpr c66
                        subst c66
                        have H1 : (some false) = some r := by rw [if_neg (show ¬ (false = true) by decide)] at H; exact H
                        clear H
                        have H := H1
                        clear H1
                        obtain rfl := Option.some.inj H
                        have hnb73 := NB436_430.out
                        have hnc73 := NB430_436.out
                        have hnb74 := NB436_445.out
                        have hnc74 := NB445_436.out
                        have hcz75_0 : wc.cell? ⟨gb436, 0, none⟩ = some (.int .i64 t431) := (blk_cell BK436.out 0).trans rfl
                        have hcz75_1 : wc.cell? ⟨gb436, 1, none⟩ = some (.bool t432) := (blk_cell BK436.out 1).trans rfl
                        have hcz75_2 : wc.cell? ⟨gb436, 2, none⟩ = some (.int .u64 t433) := (blk_cell BK436.out 2).trans rfl
                        have hcz75_3 : wc.cell? ⟨gb436, 3, none⟩ = some (.int .i64 t434) := (blk_cell BK436.out 3).trans rfl
                        have hfz75_0 := blk_frozen BK436.out 0
                        have hfz75_1 := blk_frozen BK436.out 1
                        have hfz75_2 := blk_frozen BK436.out 2
                        have hfz75_3 := blk_frozen BK436.out 3
                        have hnb76 := NB430_445.out
                        have hnc76 := NB445_430.out
                        have hcz77_0 : wc.cell? ⟨gb430, 0, none⟩ = some (.int .i64 t425) := (blk_cell BK430.out 0).trans rfl
                        have hcz77_1 : wc.cell? ⟨gb430, 1, none⟩ = some (.bool t426) := (blk_cell BK430.out 1).trans rfl
                        have hcz77_2 : wc.cell? ⟨gb430, 2, none⟩ = some (.int .u64 t427) := (blk_cell BK430.out 2).trans rfl
                        have hcz77_3 : wc.cell? ⟨gb430, 3, none⟩ = some (.int .i64 t428) := (blk_cell BK430.out 3).trans rfl
                        have hfz77_0 := blk_frozen BK430.out 0
                        have hfz77_1 := blk_frozen BK430.out 1
                        have hfz77_2 := blk_frozen BK430.out 2
                        have hfz77_3 := blk_frozen BK430.out 3
                        have hcz78_0 : wc.cell? ⟨gb445, 0, none⟩ = some (.int .i64 t437) := (blk_cell BK445.out 0).trans rfl
                        have hcz78_1 : wc.cell? ⟨gb445, 1, none⟩ = some (.int .i64 t438) := (blk_cell BK445.out 1).trans rfl
                        have hcz78_2 : wc.cell? ⟨gb445, 2, none⟩ = some (.int .i64 t439) := (blk_cell BK445.out 2).trans rfl
                        have hcz78_3 : wc.cell? ⟨gb445, 3, none⟩ = some (.int .i64 t440) := (blk_cell BK445.out 3).trans rfl
                        have hcz78_4 : wc.cell? ⟨gb445, 4, none⟩ = some (.int .u64 t441) := (blk_cell BK445.out 4).trans rfl
                        have hcz78_5 : wc.cell? ⟨gb445, 5, none⟩ = some (.int .u64 t442) := (blk_cell BK445.out 5).trans rfl
                        have hcz78_6 : wc.cell? ⟨gb445, 6, none⟩ = some (.int .u64 t443) := (blk_cell BK445.out 6).trans rfl
                        have hfz78_0 := blk_frozen BK445.out 0
                        have hfz78_1 := blk_frozen BK445.out 1
                        have hfz78_2 := blk_frozen BK445.out 2
                        have hfz78_3 := blk_frozen BK445.out 3
                        have hfz78_4 := blk_frozen BK445.out 4
                        have hfz78_5 := blk_frozen BK445.out 5
                        have hfz78_6 := blk_frozen BK445.out 6
                        go_wp2
                        go_ret
                        exact ⟨by first | rfl | (simp [errW_none, errW_some] <;> rfl) | (simp [*, errW_none, errW_some] <;> rfl), by repeat (first | (with_reducible first | exact HB.out | apply below_alloc | apply pw_below_drewN | apply below_drew1 | refine below_set ?_ GE430.out | refine below_set ?_ GE436.out | refine below_set ?_ GE445.out) | exact HB.out)⟩
                  · rw [if_neg c51] at H
                    have c51b0 : (t431 == 1) = false := beq_eq_false_iff_ne.mpr c51
                    have c51b1 : (t431 != 1) = true := bne_iff_ne.mpr c51
                    by_cases c79 : t422 = true
                    · subst c79
                      have H1 : (some (t432 == t426)) = some r := by rw [if_pos rfl] at H; exact H
                      clear H
                      have H := H1
                      clear H1
                      obtain rfl := Option.some.inj H
                      have hnb80 := NB436_430.out
                      have hnc80 := NB430_436.out
                      have hnb81 := NB436_445.out
                      have hnc81 := NB445_436.out
                      have hcz82_0 : wc.cell? ⟨gb436, 0, none⟩ = some (.int .i64 t431) := (blk_cell BK436.out 0).trans rfl
                      have hcz82_1 : wc.cell? ⟨gb436, 1, none⟩ = some (.bool t432) := (blk_cell BK436.out 1).trans rfl
                      have hcz82_2 : wc.cell? ⟨gb436, 2, none⟩ = some (.int .u64 t433) := (blk_cell BK436.out 2).trans rfl
                      have hcz82_3 : wc.cell? ⟨gb436, 3, none⟩ = some (.int .i64 t434) := (blk_cell BK436.out 3).trans rfl
                      have hfz82_0 := blk_frozen BK436.out 0
                      have hfz82_1 := blk_frozen BK436.out 1
                      have hfz82_2 := blk_frozen BK436.out 2
                      have hfz82_3 := blk_frozen BK436.out 3
                      have hnb83 := NB430_445.out
                      have hnc83 := NB445_430.out
                      have hcz84_0 : wc.cell? ⟨gb430, 0, none⟩ = some (.int .i64 t425) := (blk_cell BK430.out 0).trans rfl
                      have hcz84_1 : wc.cell? ⟨gb430, 1, none⟩ = some (.bool t426) := (blk_cell BK430.out 1).trans rfl
                      have hcz84_2 : wc.cell? ⟨gb430, 2, none⟩ = some (.int .u64 t427) := (blk_cell BK430.out 2).trans rfl
                      have hcz84_3 : wc.cell? ⟨gb430, 3, none⟩ = some (.int .i64 t428) := (blk_cell BK430.out 3).trans rfl
                      have hfz84_0 := blk_frozen BK430.out 0
                      have hfz84_1 := blk_frozen BK430.out 1
                      have hfz84_2 := blk_frozen BK430.out 2
                      have hfz84_3 := blk_frozen BK430.out 3
                      go_wp2
                      go_ret
                      exact ⟨by first | rfl | (simp [errW_none, errW_some] <;> rfl) | (simp [*, errW_none, errW_some] <;> rfl), by repeat (first | (with_reducible first | exact HB.out | apply below_alloc | apply pw_below_drewN | apply below_drew1 | refine below_set ?_ GE430.out | refine below_set ?_ GE436.out | refine below_set ?_ GE445.out) | exact HB.out)⟩
                    · replace c79 := Bool.eq_false_iff.mpr c79
                      subst c79
                      have H1 : (some false) = some r := by rw [if_neg (show ¬ (false = true) by decide)] at H; exact H
                      clear H
                      have H := H1
                      clear H1
                      obtain rfl := Option.some.inj H
                      have hnb85 := NB436_430.out
                      have hnc85 := NB430_436.out
                      have hnb86 := NB436_445.out
                      have hnc86 := NB445_436.out
                      have hcz87_0 : wc.cell? ⟨gb436, 0, none⟩ = some (.int .i64 t431) := (blk_cell BK436.out 0).trans rfl
                      have hcz87_1 : wc.cell? ⟨gb436, 1, none⟩ = some (.bool t432) := (blk_cell BK436.out 1).trans rfl
                      have hcz87_2 : wc.cell? ⟨gb436, 2, none⟩ = some (.int .u64 t433) := (blk_cell BK436.out 2).trans rfl
                      have hcz87_3 : wc.cell? ⟨gb436, 3, none⟩ = some (.int .i64 t434) := (blk_cell BK436.out 3).trans rfl
                      have hfz87_0 := blk_frozen BK436.out 0
                      have hfz87_1 := blk_frozen BK436.out 1
                      have hfz87_2 := blk_frozen BK436.out 2
                      have hfz87_3 := blk_frozen BK436.out 3
                      have hnb88 := NB430_445.out
                      have hnc88 := NB445_430.out
                      have hcz89_0 : wc.cell? ⟨gb430, 0, none⟩ = some (.int .i64 t425) := (blk_cell BK430.out 0).trans rfl
                      have hcz89_1 : wc.cell? ⟨gb430, 1, none⟩ = some (.bool t426) := (blk_cell BK430.out 1).trans rfl
                      have hcz89_2 : wc.cell? ⟨gb430, 2, none⟩ = some (.int .u64 t427) := (blk_cell BK430.out 2).trans rfl
                      have hcz89_3 : wc.cell? ⟨gb430, 3, none⟩ = some (.int .i64 t428) := (blk_cell BK430.out 3).trans rfl
                      have hfz89_0 := blk_frozen BK430.out 0
                      have hfz89_1 := blk_frozen BK430.out 1
                      have hfz89_2 := blk_frozen BK430.out 2
                      have hfz89_3 := blk_frozen BK430.out 3
                      go_wp2
                      go_ret
                      exact ⟨by first | rfl | (simp [errW_none, errW_some] <;> rfl) | (simp [*, errW_none, errW_some] <;> rfl), by repeat (first | (with_reducible first | exact HB.out | apply below_alloc | apply pw_below_drewN | apply below_drew1 | refine below_set ?_ GE430.out | refine below_set ?_ GE436.out | refine below_set ?_ GE445.out) | exact HB.out)⟩
      · rw [if_neg c10] at H
        have c10b0 : (t424 == 0) = false := beq_eq_false_iff_ne.mpr c10
        have c10b1 : (t424 != 0) = true := bne_iff_ne.mpr c10
        by_cases c90 : t422 = true
        · subst c90
          have H1 : (some (t423 == 0)) = some r := by rw [if_pos rfl] at H; exact H
          clear H
          have H := H1
          clear H1
          obtain rfl := Option.some.inj H
          go_wp2_with (first | ((with_reducible refine gate_callee (f := 12) rfl ?_); refine goesL_ (some 26) rfl rfl Tryd.func12 (by kernel_rfl) rfl #[.int .i64 a0, .int .i64 a1, .int .i64 x10_5, .int .u64 a3] rfl (by (try simp only [List.map_toArray, List.map_cons, List.map_nil]); first | done | rfl | (simp only [List.length_drop, List.length_take]; rfl)) ?_; (with_reducible refine (trans_Turn.calls kj5 a0 a1 x10_5 a3 t423 t424 _ ?side1 A9.out).mono ?_); (case side1 => exact Glob.below HG.out (by repeat (first | (with_reducible first | exact HB.out | apply below_alloc | apply pw_below_drewN | apply below_drew1) | exact HB.out))); rintro e w91 ⟨rfl, hb⟩; refine ⟨_, rfl, ?_⟩; have n0_ := Aside0.mk (below_step (by repeat (first | (with_reducible first | exact HB.out | apply below_alloc | apply pw_below_drewN | apply below_drew1) | exact HB.out)) hb); clear HB; have HB := n0_; clear n0_; (try clear hb); (try clear hb2); (try clear hk); (try clear hi)))
          go_ret
          exact ⟨by first | rfl | (simp [errW_none, errW_some] <;> rfl) | (simp [*, errW_none, errW_some] <;> rfl), by repeat (first | (with_reducible first | exact HB.out | apply below_alloc | apply pw_below_drewN | apply below_drew1) | exact HB.out)⟩
        · replace c90 := Bool.eq_false_iff.mpr c90
          subst c90
          have H1 : (some false) = some r := by rw [if_neg (show ¬ (false = true) by decide)] at H; exact H
          clear H
          have H := H1
          clear H1
          obtain rfl := Option.some.inj H
          go_wp2_with (first | ((with_reducible refine gate_callee (f := 12) rfl ?_); refine goesL_ (some 26) rfl rfl Tryd.func12 (by kernel_rfl) rfl #[.int .i64 a0, .int .i64 a1, .int .i64 x10_5, .int .u64 a3] rfl (by (try simp only [List.map_toArray, List.map_cons, List.map_nil]); first | done | rfl | (simp only [List.length_drop, List.length_take]; rfl)) ?_; (with_reducible refine (trans_Turn.calls kj5 a0 a1 x10_5 a3 t423 t424 _ ?side1 A9.out).mono ?_); (case side1 => exact Glob.below HG.out (by repeat (first | (with_reducible first | exact HB.out | apply below_alloc | apply pw_below_drewN | apply below_drew1) | exact HB.out))); rintro e w92 ⟨rfl, hb⟩; refine ⟨_, rfl, ?_⟩; have n0_ := Aside0.mk (below_step (by repeat (first | (with_reducible first | exact HB.out | apply below_alloc | apply pw_below_drewN | apply below_drew1) | exact HB.out)) hb); clear HB; have HB := n0_; clear n0_; (try clear hb); (try clear hb2); (try clear hk); (try clear hi)))
          go_ret
          exact ⟨by first | rfl | (simp [errW_none, errW_some] <;> rfl) | (simp [*, errW_none, errW_some] <;> rfl), by repeat (first | (with_reducible first | exact HB.out | apply below_alloc | apply pw_below_drewN | apply below_drew1) | exact HB.out)⟩

end Go.Proofs.YtnbkjlebphmpnaaDoor.Pr
