/- Walks: leaves of an engine without models: masks, ticks, an empty ring. -/
import Derived.Test.YtdlieanhdbbhiaaGreatDoorBase
import Derived.LoopTactic
import Derived.Deep.Cut
set_option linter.unusedVariables false
set_option linter.unusedSimpArgs false
namespace Go.Proofs.YtdlieanhdbbhiaaGreatDoor
open Go.RowKit

set_option maxRecDepth 100000 in
set_option maxHeartbeats 400000 in
theorem mask_is_any (i : Int) (h0 : 0 ≤ i) (h1 : i < 64) (w : World) : Calls Tryz.prog 283 #[.int .i64 i] w fun e w' => e = .returned (.bool true) ∧ w' = w := by
  go_enter Tryz.func283, Tryz.ntmps283
  go_wp2
  go_ret
  exact ⟨rfl, rfl⟩
set_option maxRecDepth 100000 in
set_option maxHeartbeats 400000 in
theorem mask_next0 (w : World) : Calls Tryz.prog 284 #[.int .u64 0, .int .i64 0] w fun e w' => e = .returned (.tuple #[.int .i64 0, .bool false]) ∧ w' = w := by
  go_enter Tryz.func284, Tryz.ntmps284
  go_wp2
  go_ret2
  exact ⟨rfl, rfl⟩
set_option maxRecDepth 100000 in
set_option maxHeartbeats 400000 in
theorem mask_round0 (w : World) : Calls Tryz.prog 227 #[.int .u64 0, .int .i64 0] w fun e w' => e = .returned (.tuple #[.int .i64 0, .bool false]) ∧ w' = w := by
  go_enter Tryz.func227, Tryz.ntmps227
  go_wp2_with fail
  refine (mask_is_any 0 (by omega) (by omega) _).mono ?_
  rintro e w1 ⟨rfl, rfl⟩
  go_wp2_with fail
  refine (mask_next0 _).mono ?_
  rintro e w1 ⟨rfl, rfl⟩
  go_wp2_with fail
  refine (mask_next0 _).mono ?_
  rintro e w1 ⟨rfl, rfl⟩
  go_wp2_with fail
  go_ret2
  exact ⟨rfl, rfl⟩

/-- a ring in which nothing lies -/
def EmptyRing (w : World) (r : Nat) : Prop := w.cell? ⟨r, 65, none⟩ = some (.int .u64 0) ∧ ∀ i, i < 64 → w.cell? ⟨r, i, none⟩ = some (.slice none 0 0)
theorem EmptyRing.later {w w' : World} {r : Nat} (h : EmptyRing w r) (hb : Below w.heap.size w w') : EmptyRing w' r :=
  ⟨cell_later' hb h.1, fun i hi => cell_later' hb (h.2 i hi)⟩

set_option maxRecDepth 100000 in
set_option maxHeartbeats 400000 in
theorem ring_mask (w : World) (r : Nat) (h : EmptyRing w r) : Calls Tryz.prog 228 #[.pointer (some ⟨r, 0, none⟩)] w fun e w' => e = .returned (.int .u64 0) ∧ w' = w := by
  have c := h.1
  clear h
  go_enter Tryz.func228, Tryz.ntmps228
  go_wp2
  go_ret
  exact ⟨rfl, rfl⟩
set_option maxRecDepth 100000 in
set_option maxHeartbeats 400000 in
theorem ring_first (w : World) (r : Nat) (h : Kept (EmptyRing w r)) : Calls Tryz.prog 175 #[.pointer (some ⟨r, 0, none⟩), .int .i64 0] w fun e w' => e = .returned (.tuple #[.int .i64 0, .bool false]) ∧ w' = w := by
  go_enter Tryz.func175, Tryz.ntmps175
  go_wp2_with fail
  refine (ring_mask _ r h.out).mono ?_
  rintro e w1 ⟨rfl, rfl⟩
  go_wp2_with fail
  refine (mask_round0 _).mono ?_
  rintro e w1 ⟨rfl, rfl⟩
  go_wp2_with fail
  go_ret2
  exact ⟨rfl, rfl⟩
set_option maxRecDepth 100000 in
set_option maxHeartbeats 400000 in
theorem ring_is (w : World) (r : Nat) (i : Int) (h0 : 0 ≤ i) (h1 : i < 64) : Calls Tryz.prog 229 #[.pointer (some ⟨r, 0, none⟩), .int .i64 i] w fun e w' => e = .returned (.bool true) ∧ w' = w := by
  go_enter Tryz.func229, Tryz.ntmps229
  go_wp2
  go_ret
  exact ⟨rfl, rfl⟩
set_option maxRecDepth 100000 in
set_option maxHeartbeats 400000 in
theorem clone_nil (w : World) : Calls Tryz.prog 230 #[.slice none 0 0] w fun e w' => e = .returned (.slice none 0 0) ∧ w' = w := by
  have hn := fun (W : World) => Lib.run_eql_slice_nil (P := Tryz.prog) W 171 202 none 0 0 0 0 Tryz.underlying171
  go_enter Tryz.func230, Tryz.ntmps230
  go_wp2
  go_ret
  exact ⟨rfl, rfl⟩
set_option maxRecDepth 100000 in
set_option maxHeartbeats 400000 in
theorem ring_list (w : World) (r i : Nat) (h : Kept (EmptyRing w r)) (hi : i < 64) : Calls Tryz.prog 176 #[.pointer (some ⟨r, 0, none⟩), .int .i64 i] w fun e w' => e = .returned (.slice none 0 0) ∧ w' = w := by
  have hc := h.out.2 i hi
  have hi2 : (i : Int) < 64 := by omega
  go_enter Tryz.func176, Tryz.ntmps176
  go_wp2_with fail
  refine (ring_is _ r (i : Int) (by omega) (by omega)).mono ?_
  rintro e w1 ⟨rfl, rfl⟩
  go_wp2_with fail
  refine (clone_nil _).mono ?_
  rintro e w1 ⟨rfl, rfl⟩
  go_wp2_with fail
  go_ret
  exact ⟨rfl, rfl⟩
set_option maxRecDepth 100000 in
set_option maxHeartbeats 400000 in
theorem ring_take (w : World) (r i : Nat) (h : Kept (EmptyRing w r)) (hi : i < 64) : Calls Tryz.prog 181 #[.pointer (some ⟨r, 0, none⟩), .int .i64 i] w fun e w' => e = .returned (.slice none 0 0) ∧ w' = w := by
  go_enter Tryz.func181, Tryz.ntmps181
  go_wp2_with fail
  refine (ring_list _ r i h hi).mono ?_
  rintro e w1 ⟨rfl, rfl⟩
  go_wp2_with fail
  refine wp_loop_rounds 1 ?_
  rw [rounds_succ]
  go_wp2_with fail
  go_ret
  exact ⟨rfl, rfl⟩

theorem ring_zero : Tryz.zeroCells174 = (List.replicate 64 (Value.slice none 0 0) ++ [Value.map none, Value.int .u64 0]).toArray := by kernel_rfl
theorem ring_zero_slot (v : Value) (i : Nat) (hi : i < 64) : (Tryz.zeroCells174.setIfInBounds 64 v)[i]? = some (.slice none 0 0) := by
  rw [ring_zero, Array.getElem?_setIfInBounds_ne (by omega), List.getElem?_toArray, List.getElem?_append_left (by rw [List.length_replicate]; exact hi), List.getElem?_replicate, if_pos hi]
theorem ring_zero_full (v : Value) : (Tryz.zeroCells174.setIfInBounds 64 v)[65]? = some (.int .u64 0) := by
  rw [ring_zero, Array.getElem?_setIfInBounds_ne (by omega), List.getElem?_toArray]
  rfl
set_option maxRecDepth 100000 in
set_option maxHeartbeats 400000 in
theorem ring_new (w : World) : Calls Tryz.prog 73 #[] w fun e w' => ∃ r, e = .returned (.pointer (some ⟨r, 0, none⟩)) ∧ w.heap.size ≤ r ∧ EmptyRing w' r ∧ Below w.heap.size w w' := by
  have hmm := @run_makeMap Tryz.prog
  go_enter Tryz.func73, Tryz.ntmps73
  go_wp2
  go_ret
  refine ⟨w.heap.size + 1, rfl, by omega, ⟨?_, fun i hi => ?_⟩, ((Below.refl _ _).alloc (Nat.le_refl _) _).alloc (by simp) _⟩
  · rw [World.cell?_alloc_at _ _ _ _ (by simp)]; exact ring_zero_full _
  · rw [World.cell?_alloc_at _ _ _ _ (by simp)]; exact ring_zero_slot _ i hi
end Go.Proofs.YtdlieanhdbbhiaaGreatDoor
