/- Contracts by hand: posit.caught, where nothing panics; posit.Value, of what may be. -/
import Derived.Test.YtmcodbgbjjldnaaDoorGivP
import Derived.Defers
import Derived.Recover
import Derived.Laws.Pointers
import Derived.Outline
import Derived.Test.YtmcodbgbjjldnaaDoorPrx1
set_option linter.unusedVariables false
set_option linter.unusedSimpArgs false
namespace Go.Proofs.YtmcodbgbjjldnaaDoor.Pr
open Go.RowKit Go.Proofs.YtmcodbgbjjldnaaDoorW.PrintWords Go.Proofs.YtmcodbgbjjldnaaDoorW.PrintLast Go.Proofs.YtmcodbgbjjldnaaDoorW.PrintMore

theorem caught_idle (p : Addr) (w : World) :
    CallsD Tryd.prog 102 #[.pointer (some p)] .returning w fun e u' w' => e = .returned (.tuple #[]) ∧ u' = .returning ∧ w' = w := by
  refine callsD_of_wpS Tryd.func102 rfl fun c₀ cs hu => ?_
  apply wpS_seq
  apply wpS_region
  simp [wpOpsS, go_sem, recoverD, hu, Tryd.ntmps102, Exit.thenS]
  refine wpS_of_wp ?_
  go_wp2
  cases c₀
  simp_all [bodyPostS, results, Tryd.results102]

set_option maxHeartbeats 1000000 in
set_option maxRecDepth 100000 in
theorem posit_Value.calls (k : Nat) (a0 a1 : Int) (r1 r2 : Int) (w : World) (hG : Glob w) (h : posit_value.f k a0 a1 = some (r1, r2)) :
    Calls Tryd.prog 88 #[.int .i64 a0, .int .u64 a1] w fun e w' => e = .returned (.tuple #[.int .u64 r1, .int .i64 r2, .int .i64 0]) ∧ Below w.heap.size w w' := by
  have HG := Aside0.mk hG
  have HF := Aside0.mk h
  clear hG h
  go_enter_defers Tryd.func88, Tryd.ntmps88
  go_wp2_with (go_at_call 103; (with_reducible refine (posit_value.calls k a0 a1 r1 r2 _ ?hg HF.out).mono ?_); (case hg => exact Glob.below HG.out (below_alloc (Below.refl _ _) _)); rintro e w1 ⟨rfl, hb1⟩; have hc := (hb1.cell (p := ⟨w.heap.size, 0, none⟩) (by simp)).trans ((blk_cell (heap_alloc_new w _) 0).trans rfl); have hz := (hb1.frozen (p := ⟨w.heap.size, 0, none⟩) (by simp)).trans (blk_frozen (heap_alloc_new w _) 0); have BK := Aside0.mk ((hb1.block w.heap.size (by simp)).trans (heap_alloc_new w _)); have HB := Aside0.mk (below_step (below_alloc (Below.refl _ _) _) hb1); clear hb1)
  refine leaves_cons (f := 102) (args := #[.pointer (some ⟨w.heap.size, 0, none⟩)]) (by simp) (by simp [go_sem]) ?_
  refine (caught_idle ⟨w.heap.size, 0, none⟩ _).mono ?_
  rintro e u' w'' ⟨rfl, rfl, rfl⟩
  have hcs := (blk_cell (blk_put BK.out 0 (.int .i64 0) rfl) 0).trans rfl
  simp [Leaves, settle, results, Tryd.results88, go_sem, hcs]
  exact below_set HB.out (Nat.le_refl _)

end Go.Proofs.YtmcodbgbjjldnaaDoor.Pr
