/- Contracts by hand: value.numbers, value.of, value.fits, value.Most, value.Pattern (a shape holds a function value). -/
import Derived.Test.YtmcodbgbjjldnaaDoorGivN
import Derived.Laws.EntriesVeiled
import Derived.Deep.QuietTactic
import Derived.BigQuiet
import Derived.Outline
import Derived.Deep.RegionWith
set_option linter.unusedVariables false
set_option linter.unusedSimpArgs false
namespace Go.Proofs.YtmcodbgbjjldnaaDoor.Pr
open Go.RowKit Go.Proofs.YtmcodbgbjjldnaaDoorW.PrintWords Go.Proofs.YtmcodbgbjjldnaaDoorW.PrintLast Go.Proofs.YtmcodbgbjjldnaaDoorW.PrintMore

/-- The way of a kind. -/
def fnOf (k : Int) : Value := if k = 1 then .func (.func 87) #[] #[] else if k = 2 then .func (.func 89) #[] #[] else if k = 3 then .func (.func 91) #[] #[] else if k = 4 then .func (.func 93) #[] #[] else .nilFunc
set_option maxHeartbeats 1000000 in
theorem numbers_any (k : Int) (w : World) : Calls Tryd.prog 72 #[.int .i64 k] w fun e w' => e = .returned (fnOf k) ∧ w = w' := by
  by_cases h1 : k = 1
  · subst h1
    go_enter Tryd.func72, Tryd.ntmps72
    go_wp2
    go_ret
    exact ⟨rfl, rfl⟩
  by_cases h2 : k = 2
  · subst h2
    go_enter Tryd.func72, Tryd.ntmps72
    go_wp2
    go_ret
    exact ⟨rfl, rfl⟩
  by_cases h3 : k = 3
  · subst h3
    go_enter Tryd.func72, Tryd.ntmps72
    go_wp2
    go_ret
    exact ⟨rfl, rfl⟩
  by_cases h4 : k = 4
  · subst h4
    go_enter Tryd.func72, Tryd.ntmps72
    go_wp2
    go_ret
    exact ⟨rfl, rfl⟩
  have b1 : (k == 1) = false := beq_eq_false_iff_ne.2 h1
  have b2 : (k == 2) = false := beq_eq_false_iff_ne.2 h2
  have b3 : (k == 3) = false := beq_eq_false_iff_ne.2 h3
  have b4 : (k == 4) = false := beq_eq_false_iff_ne.2 h4
  have hf : fnOf k = .nilFunc := by unfold fnOf; rw [if_neg h1, if_neg h2, if_neg h3, if_neg h4]
  go_enter Tryd.func72, Tryd.ntmps72
  go_wp2
  go_ret
  exact ⟨by rw [hf]; rfl, rfl⟩

set_option maxHeartbeats 400000 in
set_option maxRecDepth 100000 in
theorem of_func (fn : Fn) (a0 : Int) (r1 r2 r3 r4 r5 r6 r7 r8 : Int) (w : World) (hG : Glob w) (h : forms_Of.f a0 = some (r1, r2, r3, r4, r5, r6, r7, r8)) (hf : fnOf r1 = .func fn #[] #[]) :
    Calls Tryd.prog 49 #[.int .i64 a0] w fun e w' => e = .returned (.tuple #[.agg #[.int .i64 r1, .int .i64 r2, .int .i64 r3, .int .i64 r4, .int .u64 r5, .int .u64 r6, .int .u64 r7, .func fn #[] #[]], .int .i64 r8]) ∧ Below w.heap.size w w' := by
  have HG := Aside0.mk hG
  have HF := Aside0.mk h
  have HN := Aside0.mk hf
  have hu80 := Tryd.underlying80
  have hu51 := Tryd.underlying51
  clear hG h hf
  go_enter Tryd.func49, Tryd.ntmps49
  go_wp2_with (go_at_call 23; (with_reducible refine (forms_Of.calls a0 r1 r2 r3 r4 r5 r6 r7 r8 _ ?hg HF.out).mono ?_); (case hg => exact Glob.below HG.out (below_alloc (Below.refl _ _) _)); rintro e w1 ⟨rfl, hb1⟩)
  have BK : (w1.alloc (.cells #[.int .i64 r1, .int .i64 r2, .int .i64 r3, .int .i64 r4, .int .u64 r5, .int .u64 r6, .int .u64 r7] 51)).drew.heap[w.heap.size]? = some (.cells #[.int .i64 0, .int .i64 0, .int .i64 0, .int .i64 0, .int .u64 0, .int .u64 0, .int .u64 0, .nilFunc] 80 (0, 0)) := blk_drew (blk_alloc ((hb1.block w.heap.size (by simp)).trans (heap_alloc_new w _)) _)
  have BF : (w1.alloc (.cells #[.int .i64 r1, .int .i64 r2, .int .i64 r3, .int .i64 r4, .int .u64 r5, .int .u64 r6, .int .u64 r7] 51)).drew.heap[w1.heap.size]? = some (.cells #[.int .i64 r1, .int .i64 r2, .int .i64 r3, .int .i64 r4, .int .u64 r5, .int .u64 r6, .int .u64 r7] 51 (0, 0)) := blk_drew (heap_alloc_new w1 _)
  have HBW : Below w.heap.size w (w1.alloc (.cells #[.int .i64 r1, .int .i64 r2, .int .i64 r3, .int .i64 r4, .int .u64 r5, .int .u64 r6, .int .u64 r7] 51)).drew := below_drew1 (below_alloc (below_step (below_alloc (Below.refl _ _) _) hb1) _)
  clear hb1
  have q0 := (blk_cell BF 0).trans rfl
  have q1 := (blk_cell BF 1).trans rfl
  have q2 := (blk_cell BF 2).trans rfl
  have q3 := (blk_cell BF 3).trans rfl
  have q4 := (blk_cell BF 4).trans rfl
  have q5 := (blk_cell BF 5).trans rfl
  have q6 := (blk_cell BF 6).trans rfl
  refine start_ (n := 8) (S := fun w' => w'.cell? ⟨w1.heap.size, 0, none⟩ = some (.int .i64 r1) ∧ w'.cell? ⟨w1.heap.size, 1, none⟩ = some (.int .i64 r2) ∧ w'.cell? ⟨w1.heap.size, 2, none⟩ = some (.int .i64 r3) ∧ w'.cell? ⟨w1.heap.size, 3, none⟩ = some (.int .i64 r4) ∧ w'.cell? ⟨w1.heap.size, 4, none⟩ = some (.int .u64 r5) ∧ w'.cell? ⟨w1.heap.size, 5, none⟩ = some (.int .u64 r6) ∧ w'.cell? ⟨w1.heap.size, 6, none⟩ = some (.int .u64 r7)) (ds := [6]) #[false, false, false, false, false, false, false, false] (by kernel_rfl) rfl rfl ⟨(q0), (q1), (q2), (q3), (q4), (q5), (q6)⟩ (fun hHeld => ?_)
  generalize (w1.alloc (.cells #[.int .i64 r1, .int .i64 r2, .int .i64 r3, .int .i64 r4, .int .u64 r5, .int .u64 r6, .int .u64 r7] 51)).drew = W at BK BF HBW hHeld q0 q1 q2 q3 q4 q5 q6 ⊢
  have c0 := (blk_cell BK 0).trans rfl
  have f0 := blk_frozen BK 0
  have c1 := (blk_cell BK 1).trans rfl
  have f1 := blk_frozen BK 1
  have c2 := (blk_cell BK 2).trans rfl
  have f2 := blk_frozen BK 2
  have c3 := (blk_cell BK 3).trans rfl
  have f3 := blk_frozen BK 3
  have c4 := (blk_cell BK 4).trans rfl
  have f4 := blk_frozen BK 4
  have c5 := (blk_cell BK 5).trans rfl
  have f5 := blk_frozen BK 5
  have c6 := (blk_cell BK 6).trans rfl
  have f6 := blk_frozen BK 6
  have c7 := (blk_cell BK 7).trans rfl
  have f7 := blk_frozen BK 7
  refine pure_ (i := 1) (N := some 12) (v := ?_) (a' := ?_) #[false, true, false, false, false, false, false, false] rfl rfl (by kernel_rfl) (fun _ _ _ h => h) (Or.inl ⟨by rfl, ?_⟩) ?_ ?_
  rotate_left
  · intro w'
    go_simp
    with_reducible rfl
  rotate_left
  · simp only [Act.put, List.setIfInBounds_toArray, List.set_cons_zero, List.set_cons_succ, i64_w, i32_w]
    rfl
  refine pure_ (i := 5) (N := some 16) (v := ?_) (a' := ?_) #[false, true, false, false, false, true, false, false] rfl rfl (by kernel_rfl) (fun _ _ _ h => h) (Or.inl ⟨by rfl, ?_⟩) ?_ ?_
  rotate_left
  · intro w'
    go_simp
    with_reducible rfl
  rotate_left
  · simp only [Act.put, List.setIfInBounds_toArray, List.set_cons_zero, List.set_cons_succ, i64_w, i32_w]
    rfl
  refine take_ (i := 0) (N := some 11) (v := ?_) (a' := ?_) #[true, true, false, false, false, true, false, false] rfl rfl (by kernel_rfl) (fun _ _ _ h => h) (Or.inl ⟨by rfl, ?_⟩) hHeld ?_ ?_
  rotate_left
  · rintro w' ⟨s0, s1, s2, s3, s4, s5, s6⟩
    go_simp
    with_reducible rfl
  rotate_left
  · simp only [Act.put, List.setIfInBounds_toArray, List.set_cons_zero, List.set_cons_succ, i64_w, i32_w]
    rfl
  refine take_ (i := 2) (N := some 13) (v := ?_) (a' := ?_) #[true, true, true, false, false, true, false, false] rfl rfl (by kernel_rfl) (fun _ _ _ h => h) (Or.inl ⟨by rfl, ?_⟩) hHeld ?_ ?_
  rotate_left
  · rintro w' ⟨s0, s1, s2, s3, s4, s5, s6⟩
    go_simp
    with_reducible rfl
  rotate_left
  · simp only [Act.put, List.setIfInBounds_toArray, List.set_cons_zero, List.set_cons_succ, i64_w, i32_w]
    rfl
  refine one_ (i := 3) (N := some 14) #[true, true, true, true, false, true, false, false] rfl rfl (by kernel_rfl) (by decide) (fun K hK => ?_)
  refine goes_ Tryd.func72 (by kernel_rfl) rfl #[.int .i64 r1] (by rfl) rfl rfl (by simp only [List.map_toArray, List.map_cons, List.map_nil]; rfl) ?_
  with_reducible refine (numbers_any r1 _).mono ?_
  rintro e w3 ⟨he, hw3⟩
  subst hw3
  rw [HN.out] at he
  subst he
  refine ⟨_, rfl, ?_⟩
  refine hK.out _ _ hHeld (fun hHeld => ?_)
  clear hK K
  refine norm_ (a' := ?_) ?_ ?_
  rotate_left
  · show Act.put _ (some 14) _ = _
    simp only [Act.put, List.setIfInBounds_toArray, List.set_cons_zero, List.set_cons_succ, i64_w, i32_w]
    rfl
  refine pure_ (i := 4) (N := some 15) (v := ?_) (a' := ?_) #[true, true, true, true, true, true, false, false] rfl rfl (by kernel_rfl) (fun _ _ _ h => h) (Or.inl ⟨by rfl, ?_⟩) ?_ ?_
  rotate_left
  · intro w'
    go_simp
    with_reducible rfl
  rotate_left
  · simp only [Act.put, List.setIfInBounds_toArray, List.set_cons_zero, List.set_cons_succ, i64_w, i32_w]
    rfl
  refine last_ (i := 6) (N := none) #[true, true, true, true, true, true, true, false] rfl rfl (by kernel_rfl) (by decide) (fun K hK => ?_)
  refine skip_ (w1 := ?_) (by rfl) rfl ?_ ?_
  rotate_left
  · go_simp
    rfl
  refine hK.out _ _ ?_
  clear hK K
  refine pure_ (i := 7) (N := some 3) (v := ?_) (a' := ?_) #[true, true, true, true, true, true, true, true] rfl rfl (by kernel_rfl) (fun _ _ _ h => h) (Or.inl ⟨by rfl, ?_⟩) ?_ ?_
  rotate_left
  · intro w'
    go_simp
    with_reducible rfl
  rotate_left
  · simp only [Act.put, List.setIfInBounds_toArray, List.set_cons_zero, List.set_cons_succ, i64_w, i32_w]
    rfl
  refine done_ (by kernel_rfl) ?_
  clear hHeld q0 q1 q2 q3 q4 q5 q6 c0 c1 c2 c3 c4 c5 c6 c7 f0 f1 f2 f3 f4 f5 f6 f7
  have BK' := Aside0.mk BK
  have HBW' := Aside0.mk HBW
  clear BK BF HBW
  go_wp2
  refine bodyPost_ret (results_ct rfl _ _ w.heap.size 80 #[.int .i64 r1, .int .i64 r2, .int .i64 r3, .int .i64 r4, .int .u64 r5, .int .u64 r6, .int .u64 r7, .func fn #[] #[]] (0, 0) _ rfl (by refine blk_put (cs := #[.int .i64 r1, .int .i64 r2, .int .i64 r3, .int .i64 r4, .int .u64 r5, .int .u64 r6, .int .u64 r7, .nilFunc]) ?_ 7 _ rfl; refine blk_put (cs := #[.int .i64 r1, .int .i64 r2, .int .i64 r3, .int .i64 r4, .int .u64 r5, .int .u64 r6, .int .u64 0, .nilFunc]) ?_ 6 _ rfl; refine blk_put (cs := #[.int .i64 r1, .int .i64 r2, .int .i64 r3, .int .i64 r4, .int .u64 r5, .int .u64 0, .int .u64 0, .nilFunc]) ?_ 5 _ rfl; refine blk_put (cs := #[.int .i64 r1, .int .i64 r2, .int .i64 r3, .int .i64 r4, .int .u64 0, .int .u64 0, .int .u64 0, .nilFunc]) ?_ 4 _ rfl; refine blk_put (cs := #[.int .i64 r1, .int .i64 r2, .int .i64 r3, .int .i64 0, .int .u64 0, .int .u64 0, .int .u64 0, .nilFunc]) ?_ 3 _ rfl; refine blk_put (cs := #[.int .i64 r1, .int .i64 r2, .int .i64 0, .int .i64 0, .int .u64 0, .int .u64 0, .int .u64 0, .nilFunc]) ?_ 2 _ rfl; refine blk_put (cs := #[.int .i64 r1, .int .i64 0, .int .i64 0, .int .i64 0, .int .u64 0, .int .u64 0, .int .u64 0, .nilFunc]) ?_ 1 _ rfl; refine blk_put (cs := #[.int .i64 0, .int .i64 0, .int .i64 0, .int .i64 0, .int .u64 0, .int .u64 0, .int .u64 0, .nilFunc]) ?_ 0 _ rfl; exact BK'.out) Tryd.underlying80 rfl (by kernel_rfl)) rfl ?_
  exact ⟨rfl, by refine below_set ?_ (Nat.le_refl _); refine below_set ?_ (Nat.le_refl _); refine below_set ?_ (Nat.le_refl _); refine below_set ?_ (Nat.le_refl _); refine below_set ?_ (Nat.le_refl _); refine below_set ?_ (Nat.le_refl _); refine below_set ?_ (Nat.le_refl _); refine below_set ?_ (Nat.le_refl _); exact HBW'.out⟩

set_option maxHeartbeats 400000 in
set_option maxRecDepth 100000 in
theorem of_nil (a0 : Int) (r1 r2 r3 r4 r5 r6 r7 r8 : Int) (w : World) (hG : Glob w) (h : forms_Of.f a0 = some (r1, r2, r3, r4, r5, r6, r7, r8)) (hf : fnOf r1 = .nilFunc) :
    Calls Tryd.prog 49 #[.int .i64 a0] w fun e w' => e = .returned (.tuple #[.agg #[.int .i64 r1, .int .i64 r2, .int .i64 r3, .int .i64 r4, .int .u64 r5, .int .u64 r6, .int .u64 r7, .nilFunc], .int .i64 r8]) ∧ Below w.heap.size w w' := by
  have HG := Aside0.mk hG
  have HF := Aside0.mk h
  have HN := Aside0.mk hf
  have hu80 := Tryd.underlying80
  have hu51 := Tryd.underlying51
  clear hG h hf
  go_enter Tryd.func49, Tryd.ntmps49
  go_wp2_with (go_at_call 23; (with_reducible refine (forms_Of.calls a0 r1 r2 r3 r4 r5 r6 r7 r8 _ ?hg HF.out).mono ?_); (case hg => exact Glob.below HG.out (below_alloc (Below.refl _ _) _)); rintro e w1 ⟨rfl, hb1⟩)
  have BK : (w1.alloc (.cells #[.int .i64 r1, .int .i64 r2, .int .i64 r3, .int .i64 r4, .int .u64 r5, .int .u64 r6, .int .u64 r7] 51)).drew.heap[w.heap.size]? = some (.cells #[.int .i64 0, .int .i64 0, .int .i64 0, .int .i64 0, .int .u64 0, .int .u64 0, .int .u64 0, .nilFunc] 80 (0, 0)) := blk_drew (blk_alloc ((hb1.block w.heap.size (by simp)).trans (heap_alloc_new w _)) _)
  have BF : (w1.alloc (.cells #[.int .i64 r1, .int .i64 r2, .int .i64 r3, .int .i64 r4, .int .u64 r5, .int .u64 r6, .int .u64 r7] 51)).drew.heap[w1.heap.size]? = some (.cells #[.int .i64 r1, .int .i64 r2, .int .i64 r3, .int .i64 r4, .int .u64 r5, .int .u64 r6, .int .u64 r7] 51 (0, 0)) := blk_drew (heap_alloc_new w1 _)
  have HBW : Below w.heap.size w (w1.alloc (.cells #[.int .i64 r1, .int .i64 r2, .int .i64 r3, .int .i64 r4, .int .u64 r5, .int .u64 r6, .int .u64 r7] 51)).drew := below_drew1 (below_alloc (below_step (below_alloc (Below.refl _ _) _) hb1) _)
  clear hb1
  have q0 := (blk_cell BF 0).trans rfl
  have q1 := (blk_cell BF 1).trans rfl
  have q2 := (blk_cell BF 2).trans rfl
  have q3 := (blk_cell BF 3).trans rfl
  have q4 := (blk_cell BF 4).trans rfl
  have q5 := (blk_cell BF 5).trans rfl
  have q6 := (blk_cell BF 6).trans rfl
  refine start_ (n := 8) (S := fun w' => w'.cell? ⟨w1.heap.size, 0, none⟩ = some (.int .i64 r1) ∧ w'.cell? ⟨w1.heap.size, 1, none⟩ = some (.int .i64 r2) ∧ w'.cell? ⟨w1.heap.size, 2, none⟩ = some (.int .i64 r3) ∧ w'.cell? ⟨w1.heap.size, 3, none⟩ = some (.int .i64 r4) ∧ w'.cell? ⟨w1.heap.size, 4, none⟩ = some (.int .u64 r5) ∧ w'.cell? ⟨w1.heap.size, 5, none⟩ = some (.int .u64 r6) ∧ w'.cell? ⟨w1.heap.size, 6, none⟩ = some (.int .u64 r7)) (ds := [6]) #[false, false, false, false, false, false, false, false] (by kernel_rfl) rfl rfl ⟨(q0), (q1), (q2), (q3), (q4), (q5), (q6)⟩ (fun hHeld => ?_)
  generalize (w1.alloc (.cells #[.int .i64 r1, .int .i64 r2, .int .i64 r3, .int .i64 r4, .int .u64 r5, .int .u64 r6, .int .u64 r7] 51)).drew = W at BK BF HBW hHeld q0 q1 q2 q3 q4 q5 q6 ⊢
  have c0 := (blk_cell BK 0).trans rfl
  have f0 := blk_frozen BK 0
  have c1 := (blk_cell BK 1).trans rfl
  have f1 := blk_frozen BK 1
  have c2 := (blk_cell BK 2).trans rfl
  have f2 := blk_frozen BK 2
  have c3 := (blk_cell BK 3).trans rfl
  have f3 := blk_frozen BK 3
  have c4 := (blk_cell BK 4).trans rfl
  have f4 := blk_frozen BK 4
  have c5 := (blk_cell BK 5).trans rfl
  have f5 := blk_frozen BK 5
  have c6 := (blk_cell BK 6).trans rfl
  have f6 := blk_frozen BK 6
  have c7 := (blk_cell BK 7).trans rfl
  have f7 := blk_frozen BK 7
  refine pure_ (i := 1) (N := some 12) (v := ?_) (a' := ?_) #[false, true, false, false, false, false, false, false] rfl rfl (by kernel_rfl) (fun _ _ _ h => h) (Or.inl ⟨by rfl, ?_⟩) ?_ ?_
  rotate_left
  · intro w'
    go_simp
    with_reducible rfl
  rotate_left
  · simp only [Act.put, List.setIfInBounds_toArray, List.set_cons_zero, List.set_cons_succ, i64_w, i32_w]
    rfl
  refine pure_ (i := 5) (N := some 16) (v := ?_) (a' := ?_) #[false, true, false, false, false, true, false, false] rfl rfl (by kernel_rfl) (fun _ _ _ h => h) (Or.inl ⟨by rfl, ?_⟩) ?_ ?_
  rotate_left
  · intro w'
    go_simp
    with_reducible rfl
  rotate_left
  · simp only [Act.put, List.setIfInBounds_toArray, List.set_cons_zero, List.set_cons_succ, i64_w, i32_w]
    rfl
  refine take_ (i := 0) (N := some 11) (v := ?_) (a' := ?_) #[true, true, false, false, false, true, false, false] rfl rfl (by kernel_rfl) (fun _ _ _ h => h) (Or.inl ⟨by rfl, ?_⟩) hHeld ?_ ?_
  rotate_left
  · rintro w' ⟨s0, s1, s2, s3, s4, s5, s6⟩
    go_simp
    with_reducible rfl
  rotate_left
  · simp only [Act.put, List.setIfInBounds_toArray, List.set_cons_zero, List.set_cons_succ, i64_w, i32_w]
    rfl
  refine take_ (i := 2) (N := some 13) (v := ?_) (a' := ?_) #[true, true, true, false, false, true, false, false] rfl rfl (by kernel_rfl) (fun _ _ _ h => h) (Or.inl ⟨by rfl, ?_⟩) hHeld ?_ ?_
  rotate_left
  · rintro w' ⟨s0, s1, s2, s3, s4, s5, s6⟩
    go_simp
    with_reducible rfl
  rotate_left
  · simp only [Act.put, List.setIfInBounds_toArray, List.set_cons_zero, List.set_cons_succ, i64_w, i32_w]
    rfl
  refine one_ (i := 3) (N := some 14) #[true, true, true, true, false, true, false, false] rfl rfl (by kernel_rfl) (by decide) (fun K hK => ?_)
  refine goes_ Tryd.func72 (by kernel_rfl) rfl #[.int .i64 r1] (by rfl) rfl rfl (by simp only [List.map_toArray, List.map_cons, List.map_nil]; rfl) ?_
  with_reducible refine (numbers_any r1 _).mono ?_
  rintro e w3 ⟨he, hw3⟩
  subst hw3
  rw [HN.out] at he
  subst he
  refine ⟨_, rfl, ?_⟩
  refine hK.out _ _ hHeld (fun hHeld => ?_)
  clear hK K
  refine norm_ (a' := ?_) ?_ ?_
  rotate_left
  · show Act.put _ (some 14) _ = _
    simp only [Act.put, List.setIfInBounds_toArray, List.set_cons_zero, List.set_cons_succ, i64_w, i32_w]
    rfl
  refine pure_ (i := 4) (N := some 15) (v := ?_) (a' := ?_) #[true, true, true, true, true, true, false, false] rfl rfl (by kernel_rfl) (fun _ _ _ h => h) (Or.inl ⟨by rfl, ?_⟩) ?_ ?_
  rotate_left
  · intro w'
    go_simp
    with_reducible rfl
  rotate_left
  · simp only [Act.put, List.setIfInBounds_toArray, List.set_cons_zero, List.set_cons_succ, i64_w, i32_w]
    rfl
  refine last_ (i := 6) (N := none) #[true, true, true, true, true, true, true, false] rfl rfl (by kernel_rfl) (by decide) (fun K hK => ?_)
  refine skip_ (w1 := ?_) (by rfl) rfl ?_ ?_
  rotate_left
  · go_simp
    rfl
  refine hK.out _ _ ?_
  clear hK K
  refine pure_ (i := 7) (N := some 3) (v := ?_) (a' := ?_) #[true, true, true, true, true, true, true, true] rfl rfl (by kernel_rfl) (fun _ _ _ h => h) (Or.inl ⟨by rfl, ?_⟩) ?_ ?_
  rotate_left
  · intro w'
    go_simp
    with_reducible rfl
  rotate_left
  · simp only [Act.put, List.setIfInBounds_toArray, List.set_cons_zero, List.set_cons_succ, i64_w, i32_w]
    rfl
  refine done_ (by kernel_rfl) ?_
  clear hHeld q0 q1 q2 q3 q4 q5 q6 c0 c1 c2 c3 c4 c5 c6 c7 f0 f1 f2 f3 f4 f5 f6 f7
  have BK' := Aside0.mk BK
  have HBW' := Aside0.mk HBW
  clear BK BF HBW
  go_wp2
  refine bodyPost_ret (results_ct rfl _ _ w.heap.size 80 #[.int .i64 r1, .int .i64 r2, .int .i64 r3, .int .i64 r4, .int .u64 r5, .int .u64 r6, .int .u64 r7, .nilFunc] (0, 0) _ rfl (by refine blk_put (cs := #[.int .i64 r1, .int .i64 r2, .int .i64 r3, .int .i64 r4, .int .u64 r5, .int .u64 r6, .int .u64 r7, .nilFunc]) ?_ 7 _ rfl; refine blk_put (cs := #[.int .i64 r1, .int .i64 r2, .int .i64 r3, .int .i64 r4, .int .u64 r5, .int .u64 r6, .int .u64 0, .nilFunc]) ?_ 6 _ rfl; refine blk_put (cs := #[.int .i64 r1, .int .i64 r2, .int .i64 r3, .int .i64 r4, .int .u64 r5, .int .u64 0, .int .u64 0, .nilFunc]) ?_ 5 _ rfl; refine blk_put (cs := #[.int .i64 r1, .int .i64 r2, .int .i64 r3, .int .i64 r4, .int .u64 0, .int .u64 0, .int .u64 0, .nilFunc]) ?_ 4 _ rfl; refine blk_put (cs := #[.int .i64 r1, .int .i64 r2, .int .i64 r3, .int .i64 0, .int .u64 0, .int .u64 0, .int .u64 0, .nilFunc]) ?_ 3 _ rfl; refine blk_put (cs := #[.int .i64 r1, .int .i64 r2, .int .i64 0, .int .i64 0, .int .u64 0, .int .u64 0, .int .u64 0, .nilFunc]) ?_ 2 _ rfl; refine blk_put (cs := #[.int .i64 r1, .int .i64 0, .int .i64 0, .int .i64 0, .int .u64 0, .int .u64 0, .int .u64 0, .nilFunc]) ?_ 1 _ rfl; refine blk_put (cs := #[.int .i64 0, .int .i64 0, .int .i64 0, .int .i64 0, .int .u64 0, .int .u64 0, .int .u64 0, .nilFunc]) ?_ 0 _ rfl; exact BK'.out) Tryd.underlying80 rfl (by kernel_rfl)) rfl ?_
  exact ⟨rfl, by refine below_set ?_ (Nat.le_refl _); refine below_set ?_ (Nat.le_refl _); refine below_set ?_ (Nat.le_refl _); refine below_set ?_ (Nat.le_refl _); refine below_set ?_ (Nat.le_refl _); refine below_set ?_ (Nat.le_refl _); refine below_set ?_ (Nat.le_refl _); refine below_set ?_ (Nat.le_refl _); exact HBW'.out⟩

end Go.Proofs.YtmcodbgbjjldnaaDoor.Pr
