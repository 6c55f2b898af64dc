/- Walks: an engine without models: ticks, queue, leases, jobs, wheel. -/
import Derived.Test.YtdlieanhdbbhiaaGreatDoorEngA
import Derived.Lib.Walk
import Derived.Laws.Externs
import Derived.Test.YtdlieanhdbbhiaaGreatDoorShelf
set_option linter.unusedVariables false
set_option linter.unusedSimpArgs false
namespace Go.Proofs.YtdlieanhdbbhiaaGreatDoor
open Go.RowKit

theorem add64_at (a b : Nat) (h : a + b < 18446744073709551616) (W : World) : (callFunc 138 #[.int .u64 a, .int .u64 b, .int .u64 0]).run Tryz.prog W = .ok (.value (.tuple #[.int .u64 ((a + b : Nat) : Int), .int .u64 0])) W := by
  rw [run_callFunc_extern Tryz.func138 (by kernel_rfl) (by kernel_rfl) (by kernel_rfl) (e := add64Entry) (by kernel_rfl), run_add64 _ _ _ (by omega) (by omega) (by omega) (by omega)]
  simp only [Result.andThen]
  rw [show ((a : Int) + (b : Int) + 0) % 18446744073709551616 = ((a + b : Nat) : Int) by omega, show ((a : Int) + (b : Int) + 0) / 18446744073709551616 = 0 by omega]
set_option maxRecDepth 100000 in
set_option maxHeartbeats 400000 in
theorem sum_small (a b : Nat) (h : a + b < 18446744073709551616) (w : World) : Calls Tryz.prog 106 #[.int .u64 a, .int .u64 b] w fun e w' => e = .returned (.tuple #[.int .u64 ((a + b : Nat) : Int), .bool true]) ∧ w' = w := by
  have hadd := add64_at a b h
  generalize a + b = c at *
  go_enter Tryz.func106, Tryz.ntmps106
  go_wp2
  go_ret2
  exact ⟨rfl, rfl⟩
theorem len64_5 (w : World) : Calls Tryz.prog 61 #[.int .u64 5] w fun e w' => e = .returned (.int .i64 3) ∧ w' = w :=
  (Tryz.bits_Len64 5 w (by omega) (by omega)).mono fun e w' ⟨he, hw⟩ => ⟨by rw [he]; rfl, hw⟩
set_option maxRecDepth 100000 in
set_option maxHeartbeats 400000 in
theorem top_5 (w : World) : Calls Tryz.prog 180 #[.int .u64 5, .int .u64 0] w fun e w' => e = .returned (.int .i64 0) ∧ w' = w := by
  go_enter Tryz.func180, Tryz.ntmps180
  go_wp2_with fail
  refine (len64_5 _).mono ?_
  rintro e w1 ⟨rfl, rfl⟩
  go_wp2_with fail
  go_ret
  exact ⟨rfl, rfl⟩
set_option maxRecDepth 100000 in
set_option maxHeartbeats 1600000 in
theorem digits_5 (w : World) : Calls Tryz.prog 182 #[.int .u64 5] w fun e w' => e = .returned (.agg #[.int .i64 5, .int .i64 0, .int .i64 0, .int .i64 0, .int .i64 0, .int .i64 0, .int .i64 0, .int .i64 0, .int .i64 0, .int .i64 0, .int .i64 0]) ∧ Below w.heap.size w w' := by
  go_enter Tryz.func182, Tryz.ntmps182
  go_wp2
  refine wp_loop_rounds 12 ?_
  iterate 12 (rw [rounds_succ]; go_wp2)
  refine bodyPost_ret (v := .agg #[.int .i64 5, .int .i64 0, .int .i64 0, .int .i64 0, .int .i64 0, .int .i64 0, .int .i64 0, .int .i64 0, .int .i64 0, .int .i64 0, .int .i64 0]) (by simp [results, Tryz.results182, go_sem]) rfl ?_
  exact ⟨rfl, ((Below.refl _ _).alloc (Nat.le_refl _) _).alloc (by simp) _⟩
set_option maxRecDepth 100000 in
set_option maxHeartbeats 400000 in
theorem queue_new (w : World) : Calls Tryz.prog 71 #[.int .i64 1, .int .i64 0] w fun e w' => e = .returned (.pointer (some ⟨w.heap.size, 0, none⟩)) ∧ Below w.heap.size w w' := by
  go_enter Tryz.func71, Tryz.ntmps71
  go_wp2
  go_ret
  exact ⟨rfl, (Below.refl _ _).alloc (Nat.le_refl _) _⟩
set_option maxRecDepth 100000 in
set_option maxHeartbeats 400000 in
theorem lease_new (w : World) : Calls Tryz.prog 72 #[] w fun e w' => (∃ t, e = .returned (.pointer (some ⟨t, 0, none⟩))) ∧ Below w.heap.size w w' := by
  have hmm := @run_makeMap Tryz.prog
  go_enter Tryz.func72, Tryz.ntmps72
  go_wp2
  go_ret
  exact ⟨⟨_, rfl⟩, (((Below.refl _ _).alloc (Nat.le_refl _) _).alloc (by simp) _).alloc (by simp; omega) _⟩
set_option maxRecDepth 100000 in
set_option maxHeartbeats 400000 in
theorem jobs_new (w : World) : Calls Tryz.prog 48 #[.int .i64 1, .int .i64 0, .int .i64 0] w fun e w' => (∃ t, e = .returned (.pointer (some ⟨t, 0, none⟩))) ∧ Below w.heap.size w w' := by
  have hmm := @run_makeMap Tryz.prog
  go_enter Tryz.func48, Tryz.ntmps48
  go_wp2_with fail
  refine (queue_new _).mono ?_
  rintro e w1 ⟨rfl, hb1⟩
  go_wp2_with fail
  refine (lease_new _).mono ?_
  rintro e w2 ⟨⟨t, rfl⟩, hb2⟩
  go_wp2_with fail
  go_ret
  have hb := below_next hb1 hb1.size hb2
  exact ⟨⟨_, rfl⟩, (hb.alloc hb.size _).alloc (by simp; have := hb.size; omega) _⟩
end Go.Proofs.YtdlieanhdbbhiaaGreatDoor
