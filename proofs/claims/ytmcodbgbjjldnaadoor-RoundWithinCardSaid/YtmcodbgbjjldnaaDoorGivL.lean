/- Contract by hand: round.Limits. -/
import Derived.Test.YtmcodbgbjjldnaaDoorGivL00
import Derived.Test.YtmcodbgbjjldnaaDoorGivL01
import Derived.Test.YtmcodbgbjjldnaaDoorGivL11
set_option linter.unusedVariables false
set_option linter.unusedSimpArgs false
namespace Go.Proofs.YtmcodbgbjjldnaaDoor.Pr
open Go.RowKit Go.Proofs.YtmcodbgbjjldnaaDoorW.PrintWords Go.Proofs.YtmcodbgbjjldnaaDoorW.PrintLast Go.Proofs.YtmcodbgbjjldnaaDoorW.PrintMore

set_option maxHeartbeats 8000000 in
set_option maxRecDepth 100000 in
theorem lim_none (a0 a1 : Int) (k1 : Bool) (k2 q1 q2 q3 q4 q5 q6 q7 q8 m me u3 u4 o3 o4 : Int) (u1 o1 : Bool) (u2 o2 : List Int) (w : World) (HG : Aside0 (Glob w)) (HK : Aside0 (value_Key.f a0 a1 = some (k1, k2, 0))) (HF : Aside0 (forms_Of.f a0 = some (q1, q2, q3, q4, q5, q6, q7, q8)))
    (b1 : (k2 == 0) = true) (b2 : (q1 != 4) = true) :
    Calls Tryd.prog 27 #[.int .i64 a0, .int .u64 a1] w fun e_ w' => ∃ v1_ v5_ : Value, e_ = .returned (.tuple #[.agg #[.bool false, v1_, .int .i64 0, .int .i64 0], .agg #[.bool false, v5_, .int .i64 0, .int .i64 0], .bool false, .int .i64 5]) ∧ Kd.V (Kd.int .u64) 28 w' w.heap.size (fun k_ => w.heap.size ≤ k_) v1_ [] ∧ Kd.V (Kd.int .u64) 28 w' w.heap.size (fun k_ => w.heap.size ≤ k_) v5_ [] ∧ Below w.heap.size w w' := by
  have HB := Aside0.mk (Below.refl w.heap.size w)
  go_enter Tryd.func27, Tryd.ntmps27
  go_wp2_with (first | (go_at_call 53; (with_reducible refine (value_Key.calls a0 a1 k1 k2 0 _ ?hg HK.out).mono ?_); (case hg => exact Glob.below HG.out (by repeat (with_reducible first | exact HB.out | apply below_alloc | apply pw_below_drewN | apply below_drew1))); rintro e_ w1 ⟨rfl, hb1⟩; have hc1 := fun j => hb1.cell (p := ⟨w.heap.size, j, none⟩) (by simp <;> omega); have hd1 := fun j => hb1.cell (p := ⟨w.heap.size + 1, j, none⟩) (by simp <;> omega); have hz1 := fun j => hb1.frozen (p := ⟨w.heap.size, j, none⟩) (by simp <;> omega); have hy1 := fun j => hb1.frozen (p := ⟨w.heap.size + 1, j, none⟩) (by simp <;> omega); have hlt1 : w.heap.size + 1 < w1.heap.size := (by have := hb1.size; (try simp at this); omega); have HB1 := Aside0.mk (below_step (by repeat (with_reducible first | exact HB.out | apply below_alloc | apply pw_below_drewN | apply below_drew1)) hb1); clear hb1) | (go_at_call 23; (with_reducible refine (forms_Of.calls a0 q1 q2 q3 q4 q5 q6 q7 q8 _ ?hg HF.out).mono ?_); (case hg => exact Glob.below HG.out (by repeat (with_reducible first | exact HB1.out | apply below_alloc | refine below_set ?_ (Nat.le_refl _) | refine below_set ?_ (Nat.le_succ _) | apply pw_below_drewN | apply below_drew1 | apply below_drew))); rintro e_ w2 ⟨rfl, hb2⟩; have hc2 := fun j => hb2.cell (p := ⟨w.heap.size, j, none⟩) (by simp <;> omega); have hd2 := fun j => hb2.cell (p := ⟨w.heap.size + 1, j, none⟩) (by simp <;> omega); have hz2 := fun j => hb2.frozen (p := ⟨w.heap.size, j, none⟩) (by simp <;> omega); have hy2 := fun j => hb2.frozen (p := ⟨w.heap.size + 1, j, none⟩) (by simp <;> omega); have hlt2 : w1.heap.size ≤ w2.heap.size := (by have := hb2.size; (try simp at this); omega); have hg2 : w.heap.size ≤ w2.heap.size := (by omega); have hp1 : w.heap.size < w2.heap.size := (by omega); have hp2 : w.heap.size + 1 < w2.heap.size := (by omega); have hn1 : ¬ w.heap.size = w2.heap.size := (by omega); have hn2 : ¬ w.heap.size + 1 = w2.heap.size := (by omega); have hn3 : ¬ w2.heap.size = w.heap.size := (by omega); have hn4 : ¬ w2.heap.size = w.heap.size + 1 := (by omega); have HB2 := Aside0.mk (below_step (by repeat (with_reducible first | exact HB1.out | apply below_alloc | refine below_set ?_ (Nat.le_refl _) | refine below_set ?_ (Nat.le_succ _) | apply pw_below_drewN | apply below_drew1 | apply below_drew)) hb2); clear hb2))
  refine start_ (n := 6) (S := fun w' => w'.cell? ⟨w.heap.size, 0, none⟩ = some (.bool false) ∧ w'.cell? ⟨w.heap.size, 1, none⟩ = some (.slice none 0 0) ∧ w'.cell? ⟨w.heap.size, 2, none⟩ = some (.int .i64 0) ∧ w'.cell? ⟨w.heap.size, 3, none⟩ = some (.int .i64 0) ∧ w'.cell? ⟨(w.heap.size + 1), 0, none⟩ = some (.bool false) ∧ w'.cell? ⟨(w.heap.size + 1), 1, none⟩ = some (.slice none 0 0) ∧ w'.cell? ⟨(w.heap.size + 1), 2, none⟩ = some (.int .i64 0) ∧ w'.cell? ⟨(w.heap.size + 1), 3, none⟩ = some (.int .i64 0) ∧ (∀ j, w'.frozen? ⟨w.heap.size, j, none⟩ = false) ∧ (∀ j, w'.frozen? ⟨(w.heap.size + 1), j, none⟩ = false) ∧ Below w.heap.size w w') (ds := []) #[false, false, false, false, false, false] (by kernel_rfl) rfl rfl ⟨(by simp (maxDischargeDepth := 5) [↓isSome_setCell_eq, go_sem, hc1, hd1, hz1, hy1, hc2, hd2, hz2, hy2, hn1, hn2, hn3, hn4, hp1, hp2, World.cell?_alloc_lt, hlt1, hlt2]), (by simp (maxDischargeDepth := 5) [↓isSome_setCell_eq, go_sem, hc1, hd1, hz1, hy1, hc2, hd2, hz2, hy2, hn1, hn2, hn3, hn4, hp1, hp2, World.cell?_alloc_lt, hlt1, hlt2]), (by simp (maxDischargeDepth := 5) [↓isSome_setCell_eq, go_sem, hc1, hd1, hz1, hy1, hc2, hd2, hz2, hy2, hn1, hn2, hn3, hn4, hp1, hp2, World.cell?_alloc_lt, hlt1, hlt2]), (by simp (maxDischargeDepth := 5) [↓isSome_setCell_eq, go_sem, hc1, hd1, hz1, hy1, hc2, hd2, hz2, hy2, hn1, hn2, hn3, hn4, hp1, hp2, World.cell?_alloc_lt, hlt1, hlt2]), (by simp (maxDischargeDepth := 5) [↓isSome_setCell_eq, go_sem, hc1, hd1, hz1, hy1, hc2, hd2, hz2, hy2, hn1, hn2, hn3, hn4, hp1, hp2, World.cell?_alloc_lt, hlt1, hlt2]), (by simp (maxDischargeDepth := 5) [↓isSome_setCell_eq, go_sem, hc1, hd1, hz1, hy1, hc2, hd2, hz2, hy2, hn1, hn2, hn3, hn4, hp1, hp2, World.cell?_alloc_lt, hlt1, hlt2]), (by simp (maxDischargeDepth := 5) [↓isSome_setCell_eq, go_sem, hc1, hd1, hz1, hy1, hc2, hd2, hz2, hy2, hn1, hn2, hn3, hn4, hp1, hp2, World.cell?_alloc_lt, hlt1, hlt2]), (by simp (maxDischargeDepth := 5) [↓isSome_setCell_eq, go_sem, hc1, hd1, hz1, hy1, hc2, hd2, hz2, hy2, hn1, hn2, hn3, hn4, hp1, hp2, World.cell?_alloc_lt, hlt1, hlt2]), (fun j => (by simp (maxDischargeDepth := 5) [↓isSome_setCell_eq, go_sem, hc1, hd1, hz1, hy1, hc2, hd2, hz2, hy2, hn1, hn2, hn3, hn4, hp1, hp2, World.cell?_alloc_lt, hlt1, hlt2])), (fun j => (by simp (maxDischargeDepth := 5) [↓isSome_setCell_eq, go_sem, hc1, hd1, hz1, hy1, hc2, hd2, hz2, hy2, hn1, hn2, hn3, hn4, hp1, hp2, World.cell?_alloc_lt, hlt1, hlt2])), (by refine below_drew ?_; repeat (with_reducible first | exact HB2.out | apply below_alloc | refine below_set ?_ (Nat.le_refl _) | refine below_set ?_ (Nat.le_succ _) | refine below_set ?_ hg2 | apply pw_below_drewN | apply below_drew1 | apply below_drew))⟩ (fun hHeld => ?_)
  revert hHeld
  generalize World.drew _ = W_
  intro hHeld
  refine take_ (i := 0) (N := some 39) (v := ?_) (a' := ?_) #[true, false, false, false, false, false] rfl rfl (by kernel_rfl) (fun _ _ _ h => h) (Or.inl ⟨by rfl, ?_⟩) hHeld ?_ ?_
  rotate_left
  · rintro w' ⟨s0, s1, s2, s3, s4, s5, s6, s7, s8, s9, s10⟩
    go_simp
    with_reducible rfl
  rotate_left
  · simp only [Act.put, List.setIfInBounds_toArray, List.set_cons_zero, List.set_cons_succ, i64_w, i32_w]
    rfl
  refine take_ (i := 1) (N := some 40) (v := ?_) (a' := ?_) #[true, true, false, false, false, false] rfl rfl (by kernel_rfl) (fun _ _ _ h => h) (Or.inl ⟨by rfl, ?_⟩) hHeld ?_ ?_
  rotate_left
  · rintro w' ⟨s0, s1, s2, s3, s4, s5, s6, s7, s8, s9, s10⟩
    go_simp
    with_reducible rfl
  rotate_left
  · simp only [Act.put, List.setIfInBounds_toArray, List.set_cons_zero, List.set_cons_succ, i64_w, i32_w]
    rfl
  refine one_ (i := 2) (N := none) #[true, true, true, false, false, false] rfl rfl (by kernel_rfl) (by decide) (fun K hK => ?_)
  obtain ⟨s0, s1, s2, s3, s4, s5, s6, s7, s8, s9, s10⟩ := hHeld
  refine skip_ (w1 := ?_) (by rfl) rfl ?_ ?_
  rotate_left
  · simp (maxDischargeDepth := 5) [↓isSome_setCell_eq, go_sem, s0, s1, s2, s3, s4, s5, s6, s7, s8, s9]
    rfl
  refine hK.out _ _ ⟨(by rw [setCell_self4 s0 s1 s2 s3]; exact s0), (by rw [setCell_self4 s0 s1 s2 s3]; exact s1), (by rw [setCell_self4 s0 s1 s2 s3]; exact s2), (by rw [setCell_self4 s0 s1 s2 s3]; exact s3), (by rw [setCell_self4 s0 s1 s2 s3]; exact s4), (by rw [setCell_self4 s0 s1 s2 s3]; exact s5), (by rw [setCell_self4 s0 s1 s2 s3]; exact s6), (by rw [setCell_self4 s0 s1 s2 s3]; exact s7), (by rw [setCell_self4 s0 s1 s2 s3]; exact s8), (by rw [setCell_self4 s0 s1 s2 s3]; exact s9), (by rw [setCell_self4 s0 s1 s2 s3]; exact s10)⟩ (fun hHeld => ?_)
  clear hK K
  rw [setCell_self4 s0 s1 s2 s3] at hHeld ⊢
  refine one_ (i := 3) (N := none) #[true, true, true, true, false, false] rfl rfl (by kernel_rfl) (by decide) (fun K hK => ?_)
  obtain ⟨s0, s1, s2, s3, s4, s5, s6, s7, s8, s9, s10⟩ := hHeld
  refine skip_ (w1 := ?_) (by rfl) rfl ?_ ?_
  rotate_left
  · simp (maxDischargeDepth := 5) [↓isSome_setCell_eq, go_sem, s0, s1, s2, s3, s4, s5, s6, s7, s8, s9]
    rfl
  refine hK.out _ _ ⟨(by rw [setCell_self4 s4 s5 s6 s7]; exact s0), (by rw [setCell_self4 s4 s5 s6 s7]; exact s1), (by rw [setCell_self4 s4 s5 s6 s7]; exact s2), (by rw [setCell_self4 s4 s5 s6 s7]; exact s3), (by rw [setCell_self4 s4 s5 s6 s7]; exact s4), (by rw [setCell_self4 s4 s5 s6 s7]; exact s5), (by rw [setCell_self4 s4 s5 s6 s7]; exact s6), (by rw [setCell_self4 s4 s5 s6 s7]; exact s7), (by rw [setCell_self4 s4 s5 s6 s7]; exact s8), (by rw [setCell_self4 s4 s5 s6 s7]; exact s9), (by rw [setCell_self4 s4 s5 s6 s7]; exact s10)⟩ (fun hHeld => ?_)
  clear hK K
  rw [setCell_self4 s4 s5 s6 s7] at hHeld ⊢
  refine pure_ (i := 4) (N := some 6) (v := ?_) (a' := ?_) #[true, true, true, true, true, false] rfl rfl (by kernel_rfl) (fun _ _ _ h => h) (Or.inl ⟨by rfl, ?_⟩) ?_ ?_
  rotate_left
  · intro w'
    go_simp
    with_reducible rfl
  rotate_left
  · simp only [Act.put, List.setIfInBounds_toArray, List.set_cons_zero, List.set_cons_succ, i64_w, i32_w]
    rfl
  refine pure_ (i := 5) (N := some 7) (v := ?_) (a' := ?_) #[true, true, true, true, true, true] rfl rfl (by kernel_rfl) (fun _ _ _ h => h) (Or.inl ⟨by rfl, ?_⟩) ?_ ?_
  rotate_left
  · intro w'
    go_simp
    with_reducible rfl
  rotate_left
  · simp only [Act.put, List.setIfInBounds_toArray, List.set_cons_zero, List.set_cons_succ, i64_w, i32_w]
    rfl
  refine done_ (by kernel_rfl) ?_

  obtain ⟨s0, s1, s2, s3, s4, s5, s6, s7, s8, s9, s10⟩ := hHeld
  go_wp2
  exact bodyPost_ret (v := .tuple #[.agg #[.bool false, .slice none 0 0, .int .i64 0, .int .i64 0], .agg #[.bool false, .slice none 0 0, .int .i64 0, .int .i64 0], .bool false, .int .i64 5]) (by simp [results, Tryd.results27, go_sem, s0, s1, s2, s3, s4, s5, s6, s7]) rfl ⟨_, _, rfl, Kd.V_nil _ _ _ _ _, Kd.V_nil _ _ _ _ _, s10⟩
set_option maxHeartbeats 8000000 in
set_option maxRecDepth 100000 in
theorem lim_err (a0 a1 : Int) (k1 : Bool) (k2 e : Int) (w : World) (HG : Aside0 (Glob w)) (HK : Aside0 (value_Key.f a0 a1 = some (k1, k2, e)))
    (b0 : (e != 0) = true) :
    Calls Tryd.prog 27 #[.int .i64 a0, .int .u64 a1] w fun e_ w' => ∃ v1_ v5_ : Value, e_ = .returned (.tuple #[.agg #[.bool false, v1_, .int .i64 0, .int .i64 0], .agg #[.bool false, v5_, .int .i64 0, .int .i64 0], .bool false, .int .i64 e]) ∧ Kd.V (Kd.int .u64) 28 w' w.heap.size (fun k_ => w.heap.size ≤ k_) v1_ [] ∧ Kd.V (Kd.int .u64) 28 w' w.heap.size (fun k_ => w.heap.size ≤ k_) v5_ [] ∧ Below w.heap.size w w' := by
  have HB := Aside0.mk (Below.refl w.heap.size w)
  go_enter Tryd.func27, Tryd.ntmps27
  go_wp2_with (first | (go_at_call 53; (with_reducible refine (value_Key.calls a0 a1 k1 k2 e _ ?hg HK.out).mono ?_); (case hg => exact Glob.below HG.out (by repeat (with_reducible first | exact HB.out | apply below_alloc | apply pw_below_drewN | apply below_drew1))); rintro e_ w1 ⟨rfl, hb1⟩; have hc1 := fun j => hb1.cell (p := ⟨w.heap.size, j, none⟩) (by simp <;> omega); have hd1 := fun j => hb1.cell (p := ⟨w.heap.size + 1, j, none⟩) (by simp <;> omega); have hz1 := fun j => hb1.frozen (p := ⟨w.heap.size, j, none⟩) (by simp <;> omega); have hy1 := fun j => hb1.frozen (p := ⟨w.heap.size + 1, j, none⟩) (by simp <;> omega); have hlt1 : w.heap.size + 1 < w1.heap.size := (by have := hb1.size; (try simp at this); omega); have HB1 := Aside0.mk (below_step (by repeat (with_reducible first | exact HB.out | apply below_alloc | apply pw_below_drewN | apply below_drew1)) hb1); clear hb1))
  refine start_ (n := 7) (S := fun w' => w'.cell? ⟨w.heap.size, 0, none⟩ = some (.bool false) ∧ w'.cell? ⟨w.heap.size, 1, none⟩ = some (.slice none 0 0) ∧ w'.cell? ⟨w.heap.size, 2, none⟩ = some (.int .i64 0) ∧ w'.cell? ⟨w.heap.size, 3, none⟩ = some (.int .i64 0) ∧ w'.cell? ⟨(w.heap.size + 1), 0, none⟩ = some (.bool false) ∧ w'.cell? ⟨(w.heap.size + 1), 1, none⟩ = some (.slice none 0 0) ∧ w'.cell? ⟨(w.heap.size + 1), 2, none⟩ = some (.int .i64 0) ∧ w'.cell? ⟨(w.heap.size + 1), 3, none⟩ = some (.int .i64 0) ∧ (∀ j, w'.frozen? ⟨w.heap.size, j, none⟩ = false) ∧ (∀ j, w'.frozen? ⟨(w.heap.size + 1), j, none⟩ = false) ∧ Below w.heap.size w w') (ds := []) #[false, false, false, false, false, false, false] (by kernel_rfl) rfl rfl ⟨(by simp (maxDischargeDepth := 5) [↓isSome_setCell_eq, go_sem, hc1, hd1, hz1, hy1, hlt1]), (by simp (maxDischargeDepth := 5) [↓isSome_setCell_eq, go_sem, hc1, hd1, hz1, hy1, hlt1]), (by simp (maxDischargeDepth := 5) [↓isSome_setCell_eq, go_sem, hc1, hd1, hz1, hy1, hlt1]), (by simp (maxDischargeDepth := 5) [↓isSome_setCell_eq, go_sem, hc1, hd1, hz1, hy1, hlt1]), (by simp (maxDischargeDepth := 5) [↓isSome_setCell_eq, go_sem, hc1, hd1, hz1, hy1, hlt1]), (by simp (maxDischargeDepth := 5) [↓isSome_setCell_eq, go_sem, hc1, hd1, hz1, hy1, hlt1]), (by simp (maxDischargeDepth := 5) [↓isSome_setCell_eq, go_sem, hc1, hd1, hz1, hy1, hlt1]), (by simp (maxDischargeDepth := 5) [↓isSome_setCell_eq, go_sem, hc1, hd1, hz1, hy1, hlt1]), (fun j => (by simp (maxDischargeDepth := 5) [↓isSome_setCell_eq, go_sem, hc1, hd1, hz1, hy1, hlt1])), (fun j => (by simp (maxDischargeDepth := 5) [↓isSome_setCell_eq, go_sem, hc1, hd1, hz1, hy1, hlt1])), (by refine below_drew ?_; repeat (with_reducible first | exact HB1.out | apply below_alloc | refine below_set ?_ (Nat.le_refl _) | refine below_set ?_ (Nat.le_succ _) | apply pw_below_drewN | apply below_drew1 | apply below_drew))⟩ (fun hHeld => ?_)
  revert hHeld
  generalize World.drew _ = W_
  intro hHeld
  refine pure_ (i := 2) (N := some 26) (v := ?_) (a' := ?_) #[false, false, true, false, false, false, false] rfl rfl (by kernel_rfl) (fun _ _ _ h => h) (Or.inl ⟨by rfl, ?_⟩) ?_ ?_
  rotate_left
  · intro w'
    go_simp
    with_reducible rfl
  rotate_left
  · simp only [Act.put, List.setIfInBounds_toArray, List.set_cons_zero, List.set_cons_succ, i64_w, i32_w]
    rfl
  refine take_ (i := 0) (N := some 24) (v := ?_) (a' := ?_) #[true, false, true, false, false, false, false] rfl rfl (by kernel_rfl) (fun _ _ _ h => h) (Or.inl ⟨by rfl, ?_⟩) hHeld ?_ ?_
  rotate_left
  · rintro w' ⟨s0, s1, s2, s3, s4, s5, s6, s7, s8, s9, s10⟩
    go_simp
    with_reducible rfl
  rotate_left
  · simp only [Act.put, List.setIfInBounds_toArray, List.set_cons_zero, List.set_cons_succ, i64_w, i32_w]
    rfl
  refine take_ (i := 1) (N := some 25) (v := ?_) (a' := ?_) #[true, true, true, false, false, false, false] rfl rfl (by kernel_rfl) (fun _ _ _ h => h) (Or.inl ⟨by rfl, ?_⟩) hHeld ?_ ?_
  rotate_left
  · rintro w' ⟨s0, s1, s2, s3, s4, s5, s6, s7, s8, s9, s10⟩
    go_simp
    with_reducible rfl
  rotate_left
  · simp only [Act.put, List.setIfInBounds_toArray, List.set_cons_zero, List.set_cons_succ, i64_w, i32_w]
    rfl
  refine one_ (i := 3) (N := none) #[true, true, true, true, false, false, false] rfl rfl (by kernel_rfl) (by decide) (fun K hK => ?_)
  obtain ⟨s0, s1, s2, s3, s4, s5, s6, s7, s8, s9, s10⟩ := hHeld
  refine skip_ (w1 := ?_) (by rfl) rfl ?_ ?_
  rotate_left
  · simp (maxDischargeDepth := 5) [↓isSome_setCell_eq, go_sem, s0, s1, s2, s3, s4, s5, s6, s7, s8, s9]
    rfl
  refine hK.out _ _ ⟨(by rw [setCell_self4 s0 s1 s2 s3]; exact s0), (by rw [setCell_self4 s0 s1 s2 s3]; exact s1), (by rw [setCell_self4 s0 s1 s2 s3]; exact s2), (by rw [setCell_self4 s0 s1 s2 s3]; exact s3), (by rw [setCell_self4 s0 s1 s2 s3]; exact s4), (by rw [setCell_self4 s0 s1 s2 s3]; exact s5), (by rw [setCell_self4 s0 s1 s2 s3]; exact s6), (by rw [setCell_self4 s0 s1 s2 s3]; exact s7), (by rw [setCell_self4 s0 s1 s2 s3]; exact s8), (by rw [setCell_self4 s0 s1 s2 s3]; exact s9), (by rw [setCell_self4 s0 s1 s2 s3]; exact s10)⟩ (fun hHeld => ?_)
  clear hK K
  rw [setCell_self4 s0 s1 s2 s3] at hHeld ⊢
  refine one_ (i := 4) (N := none) #[true, true, true, true, true, false, false] rfl rfl (by kernel_rfl) (by decide) (fun K hK => ?_)
  obtain ⟨s0, s1, s2, s3, s4, s5, s6, s7, s8, s9, s10⟩ := hHeld
  refine skip_ (w1 := ?_) (by rfl) rfl ?_ ?_
  rotate_left
  · simp (maxDischargeDepth := 5) [↓isSome_setCell_eq, go_sem, s0, s1, s2, s3, s4, s5, s6, s7, s8, s9]
    rfl
  refine hK.out _ _ ⟨(by rw [setCell_self4 s4 s5 s6 s7]; exact s0), (by rw [setCell_self4 s4 s5 s6 s7]; exact s1), (by rw [setCell_self4 s4 s5 s6 s7]; exact s2), (by rw [setCell_self4 s4 s5 s6 s7]; exact s3), (by rw [setCell_self4 s4 s5 s6 s7]; exact s4), (by rw [setCell_self4 s4 s5 s6 s7]; exact s5), (by rw [setCell_self4 s4 s5 s6 s7]; exact s6), (by rw [setCell_self4 s4 s5 s6 s7]; exact s7), (by rw [setCell_self4 s4 s5 s6 s7]; exact s8), (by rw [setCell_self4 s4 s5 s6 s7]; exact s9), (by rw [setCell_self4 s4 s5 s6 s7]; exact s10)⟩ (fun hHeld => ?_)
  clear hK K
  rw [setCell_self4 s4 s5 s6 s7] at hHeld ⊢
  refine pure_ (i := 5) (N := some 6) (v := ?_) (a' := ?_) #[true, true, true, true, true, true, false] rfl rfl (by kernel_rfl) (fun _ _ _ h => h) (Or.inl ⟨by rfl, ?_⟩) ?_ ?_
  rotate_left
  · intro w'
    go_simp
    with_reducible rfl
  rotate_left
  · simp only [Act.put, List.setIfInBounds_toArray, List.set_cons_zero, List.set_cons_succ, i64_w, i32_w]
    rfl
  refine pure_ (i := 6) (N := some 7) (v := ?_) (a' := ?_) #[true, true, true, true, true, true, true] rfl rfl (by kernel_rfl) (fun _ _ _ h => h) (Or.inl ⟨by rfl, ?_⟩) ?_ ?_
  rotate_left
  · intro w'
    go_simp
    with_reducible rfl
  rotate_left
  · simp only [Act.put, List.setIfInBounds_toArray, List.set_cons_zero, List.set_cons_succ, i64_w, i32_w]
    rfl
  refine done_ (by kernel_rfl) ?_

  obtain ⟨s0, s1, s2, s3, s4, s5, s6, s7, s8, s9, s10⟩ := hHeld
  go_wp2
  exact bodyPost_ret (v := .tuple #[.agg #[.bool false, .slice none 0 0, .int .i64 0, .int .i64 0], .agg #[.bool false, .slice none 0 0, .int .i64 0, .int .i64 0], .bool false, .int .i64 e]) (by simp [results, Tryd.results27, go_sem, s0, s1, s2, s3, s4, s5, s6, s7]) rfl ⟨_, _, rfl, Kd.V_nil _ _ _ _ _, Kd.V_nil _ _ _ _ _, s10⟩
def round_Limits.f (a0 a1 : Int) : Option (Bool × List Int × Int × Int × Bool × List Int × Int × Int × Bool × Int) :=
  (value_Key.f a0 a1).bind fun kk => if kk.2.2 = 0 then ((forms_Of.f a0).bind fun q => if kk.2.1 = 0 ∧ ¬ q.1 = 4 then some (false, [], 0, 0, false, [], 0, 0, false, 5) else (value_Most.f a0 kk.1).bind fun mm =>
    (if (if q.1 = 1 then 2 else 1) ≤ kk.2.1 then round_behind.f a0 (IntKind.u64.wrap (kk.2.1 - 1)) else some (false, [], 0, 0)).bind fun lo =>
    (if kk.2.1 < mm.1 ∨ (¬ q.1 = 1 ∧ ¬ Go.bits .or .u64 q.2.2.2.2.2.1 q.2.2.2.2.2.2.1 = 0) then round_behind.f a0 kk.2.1 else some (false, [], 0, 0)).bind fun hi =>
    some (lo.1, lo.2.1, lo.2.2.1, lo.2.2.2, hi.1, hi.2.1, hi.2.2.1, hi.2.2.2, (Go.bits .and .u64 kk.2.1 1 == 0), 0)) else some (false, [], 0, 0, false, [], 0, 0, false, kk.2.2)
theorem round_Limits.calls (a0 a1 : Int) (r1 : Bool) (r2 : List Int) (r3 r4 : Int) (r5 : Bool) (r6 : List Int) (r7 r8 : Int) (r9 : Bool) (r10 : Int) (w : World) (hG : Glob w) (h : round_Limits.f a0 a1 = some (r1, r2, r3, r4, r5, r6, r7, r8, r9, r10)) :
    Calls Tryd.prog 27 #[.int .i64 a0, .int .u64 a1] w fun e_ w' => ∃ v1_ v5_ : Value, e_ = .returned (.tuple #[.agg #[.bool r1, v1_, .int .i64 r3, .int .i64 r4], .agg #[.bool r5, v5_, .int .i64 r7, .int .i64 r8], .bool r9, .int .i64 r10]) ∧ Kd.V (Kd.int .u64) 28 w' w.heap.size (fun k_ => w.heap.size ≤ k_) v1_ r2 ∧ Kd.V (Kd.int .u64) 28 w' w.heap.size (fun k_ => w.heap.size ≤ k_) v5_ r6 ∧ Below w.heap.size w w' := by
  obtain ⟨⟨k1, k2, e⟩, hk, h⟩ := Option.bind_eq_some_iff.1 h
  simp only at h
  have HG := Aside0.mk hG
  by_cases c0 : e = 0
  · subst c0
    rw [if_pos rfl] at h
    obtain ⟨⟨q1, q2, q3, q4, q5, q6, q7, q8⟩, hf, h⟩ := Option.bind_eq_some_iff.1 h
    simp only at h
    by_cases c1 : k2 = 0 ∧ ¬ q1 = 4
    · rw [if_pos c1] at h
      simp only [Option.some.injEq, Prod.mk.injEq] at h
      obtain ⟨rfl, rfl, rfl, rfl, rfl, rfl, rfl, rfl, rfl, rfl⟩ := h
      exact lim_none a0 a1 k1 k2 q1 q2 q3 q4 q5 q6 q7 q8 0 0 0 0 0 0 false false [] [] w HG ⟨hk⟩ ⟨hf⟩ (beq_iff_eq.2 c1.1) (bne_iff_ne.2 c1.2)
    · rw [if_neg c1] at h
      have hb : ((k2 == 0) = false ∧ True) ∨ ((k2 == 0) = true ∧ (q1 != 4) = false) := by
        by_cases ck : k2 = 0
        · exact .inr ⟨beq_iff_eq.2 ck, bne_eq_false_iff_eq.2 (Classical.byContradiction fun hq => c1 ⟨ck, hq⟩)⟩
        · exact .inl ⟨beq_eq_false_iff_ne.2 ck, trivial⟩
      obtain ⟨⟨m, me⟩, hm, h⟩ := Option.bind_eq_some_iff.1 h
      simp only at h
      obtain ⟨⟨u1, u2, u3, u4⟩, hl, h⟩ := Option.bind_eq_some_iff.1 h
      obtain ⟨⟨o1, o2, o3, o4⟩, hh, h⟩ := Option.bind_eq_some_iff.1 h
      simp only [Option.some.injEq, Prod.mk.injEq] at h
      obtain ⟨rfl, rfl, rfl, rfl, rfl, rfl, rfl, rfl, rfl, rfl⟩ := h
      have tq : ∀ b : Bool, ((q1 == 1) = b ∧ (q1 != 1) = !b) ↔ (decide (q1 = 1) = b) := fun b => by
        by_cases hq : q1 = 1
        · subst hq; cases b <;> simp
        · have : (q1 == 1) = false := beq_eq_false_iff_ne.2 hq
          have h2 : (q1 != 1) = true := bne_iff_ne.2 hq
          rw [this, h2, decide_eq_false hq]; cases b <;> simp
      by_cases cl : (if q1 = 1 then 2 else 1) ≤ k2
      · rw [if_pos cl] at hl
        have hb1 : ((k2 == 0) = false ∧ True) := ⟨beq_eq_false_iff_ne.2 (by split at cl <;> omega), trivial⟩
        by_cases ch : k2 < m ∨ (¬ q1 = 1 ∧ ¬ Go.bits .or .u64 q6 q7 = 0)
        · rw [if_pos ch] at hh
          refine lim11 a0 a1 k1 k2 q1 q2 q3 q4 q5 q6 q7 q8 m me u3 u4 o3 o4 u1 o1 u2 o2 w HG ⟨hk⟩ ⟨hf⟩ ⟨hm⟩ ⟨hl⟩ ⟨hh⟩ hb1 ?_
          by_cases hq : q1 = 1
          · exact .inl ⟨beq_iff_eq.2 hq, bne_eq_false_iff_eq.2 hq, decide_eq_true (by rw [if_pos hq] at cl; exact cl), decide_eq_true (ch.resolve_right (fun h => h.1 hq)), trivial⟩
          · by_cases hm_ : k2 < m
            · exact .inr (.inl ⟨beq_eq_false_iff_ne.2 hq, bne_iff_ne.2 hq, decide_eq_true (by rw [if_neg hq] at cl; exact cl), decide_eq_true hm_, trivial⟩)
            · exact .inr (.inr ⟨beq_eq_false_iff_ne.2 hq, bne_iff_ne.2 hq, decide_eq_true (by rw [if_neg hq] at cl; exact cl), decide_eq_false hm_, bne_iff_ne.2 (ch.resolve_left hm_).2⟩)
        · rw [if_neg ch] at hh
          simp only [Option.some.injEq, Prod.mk.injEq] at hh
          obtain ⟨rfl, rfl, rfl, rfl⟩ := hh
          refine lim10 a0 a1 k1 k2 q1 q2 q3 q4 q5 q6 q7 q8 m me u3 u4 0 0 u1 false u2 [] w HG ⟨hk⟩ ⟨hf⟩ ⟨hm⟩ ⟨hl⟩ hb1 ?_
          by_cases hq : q1 = 1
          · exact .inl ⟨beq_iff_eq.2 hq, bne_eq_false_iff_eq.2 hq, decide_eq_true (by rw [if_pos hq] at cl; exact cl), decide_eq_false (fun h => ch (.inl h)), trivial⟩
          · exact .inr ⟨beq_eq_false_iff_ne.2 hq, bne_iff_ne.2 hq, decide_eq_true (by rw [if_neg hq] at cl; exact cl), decide_eq_false (fun h => ch (.inl h)), bne_eq_false_iff_eq.2 (Classical.byContradiction fun h => ch (.inr ⟨hq, h⟩))⟩
      · rw [if_neg cl] at hl
        simp only [Option.some.injEq, Prod.mk.injEq] at hl
        obtain ⟨rfl, rfl, rfl, rfl⟩ := hl
        by_cases ch : k2 < m ∨ (¬ q1 = 1 ∧ ¬ Go.bits .or .u64 q6 q7 = 0)
        · rw [if_pos ch] at hh
          refine lim01 a0 a1 k1 k2 q1 q2 q3 q4 q5 q6 q7 q8 m me 0 0 o3 o4 false o1 [] o2 w HG ⟨hk⟩ ⟨hf⟩ ⟨hm⟩ ⟨hh⟩ hb ?_
          by_cases hq : q1 = 1
          · exact .inl ⟨beq_iff_eq.2 hq, bne_eq_false_iff_eq.2 hq, decide_eq_false (by rw [if_pos hq] at cl; exact cl), decide_eq_true (ch.resolve_right (fun h => h.1 hq)), trivial⟩
          · by_cases hm_ : k2 < m
            · exact .inr (.inl ⟨beq_eq_false_iff_ne.2 hq, bne_iff_ne.2 hq, decide_eq_false (by rw [if_neg hq] at cl; exact cl), decide_eq_true hm_, trivial⟩)
            · exact .inr (.inr ⟨beq_eq_false_iff_ne.2 hq, bne_iff_ne.2 hq, decide_eq_false (by rw [if_neg hq] at cl; exact cl), decide_eq_false hm_, bne_iff_ne.2 (ch.resolve_left hm_).2⟩)
        · rw [if_neg ch] at hh
          simp only [Option.some.injEq, Prod.mk.injEq] at hh
          obtain ⟨rfl, rfl, rfl, rfl⟩ := hh
          refine lim00 a0 a1 k1 k2 q1 q2 q3 q4 q5 q6 q7 q8 m me 0 0 0 0 false false [] [] w HG ⟨hk⟩ ⟨hf⟩ ⟨hm⟩ hb ?_
          by_cases hq : q1 = 1
          · exact .inl ⟨beq_iff_eq.2 hq, bne_eq_false_iff_eq.2 hq, decide_eq_false (by rw [if_pos hq] at cl; exact cl), decide_eq_false (fun h => ch (.inl h)), trivial⟩
          · exact .inr ⟨beq_eq_false_iff_ne.2 hq, bne_iff_ne.2 hq, decide_eq_false (by rw [if_neg hq] at cl; exact cl), decide_eq_false (fun h => ch (.inl h)), bne_eq_false_iff_eq.2 (Classical.byContradiction fun h => ch (.inr ⟨hq, h⟩))⟩
  · rw [if_neg c0] at h
    simp only [Option.some.injEq, Prod.mk.injEq] at h
    obtain ⟨rfl, rfl, rfl, rfl, rfl, rfl, rfl, rfl, rfl, rfl⟩ := h
    exact lim_err a0 a1 k1 k2 e w HG ⟨hk⟩ (bne_iff_ne.2 c0)
end Go.Proofs.YtmcodbgbjjldnaaDoor.Pr
