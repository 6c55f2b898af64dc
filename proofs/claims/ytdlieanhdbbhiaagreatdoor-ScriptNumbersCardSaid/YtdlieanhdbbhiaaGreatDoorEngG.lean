/- Walks: an engine without models: New, Play of a tick and a look. -/
import Derived.Test.YtdlieanhdbbhiaaGreatDoorEngF
import Derived.Maps.AppendAt
set_option linter.unusedVariables false
set_option linter.unusedSimpArgs false
namespace Go.Proofs.YtdlieanhdbbhiaaGreatDoor
open Go.RowKit

theorem Whole.new' (w : World) (t : TypeId) (C : Array Value) (n : Nat) (hn : n = w.heap.size) : Whole (w.alloc (.cells C t)) n t C := by subst hn; exact Whole.new w t C
theorem EmptyWheel.al {w : World} {wh far all : Nat} {now : Int} {rs : List Nat} {o : Obj} (h : EmptyWheel w wh now far all rs) : EmptyWheel (w.alloc o) wh now far all rs := h.later ((Below.refl _ _).alloc (Nat.le_refl _) _)
theorem EmptyWheel.dr {w : World} {wh far all : Nat} {now : Int} {rs : List Nat} (h : EmptyWheel w wh now far all rs) : EmptyWheel w.drew wh now far all rs := h.later (below_drew0 _ _)
theorem apart_of {w : World} {wh far all : Nat} {now : Int} {rs : List Nat} (h : EmptyWheel w wh now far all rs) {x : Nat} (hx : w.heap.size ≤ x) : x ≠ wh ∧ (∀ r ∈ rs, x ≠ r) ∧ x ≠ far := by
  obtain ⟨b1, b2, b3⟩ := h.bound
  exact ⟨by omega, fun r hr => by have := b2 r hr; omega, by omega⟩
theorem span1 (w : World) : Calls Tryz.prog 69 #[.int .u64 1] w fun e w' => e = .returned (.bool true) ∧ w' = w := by
  go_enter Tryz.func69, Tryz.ntmps69
  go_wp2
  go_ret
  exact ⟨rfl, rfl⟩
abbrev cfg1 : Array Value := #[.int .i64 0, .int .i64 0, .int .i64 0, .int .i64 1, .int .u64 1, .int .u64 1]
set_option maxRecDepth 1000000 in
set_option maxHeartbeats 1600000 in
theorem good1 (w : World) : Calls Tryz.prog 47 #[.agg cfg1] w fun e w' => e = .returned (.bool true) ∧ Below w.heap.size w w' := by
  go_enter Tryz.func47, Tryz.ntmps47
  go_wp2_with (first
    | (go_at_call 70; refine (in_yes _ _ _ (by omega) (by omega) _).mono ?_; rintro e w1 ⟨rfl, rfl⟩)
    | (go_at_call 69; refine (span1 _).mono ?_; rintro e w1 ⟨rfl, rfl⟩)
    | fail)
  go_ret
  exact ⟨rfl, (Below.refl _ _).alloc (Nat.le_refl _) _⟩
set_option maxRecDepth 1000000 in
set_option maxHeartbeats 3200000 in
theorem eng_new (w : World) : Calls Tryz.prog 28 #[.agg cfg1] w fun e w' => (∃ x b wh tm wk far all rs, e = .returned (.tuple #[ptr x, .int .i64 0]) ∧ Eng w' x 0 b wh tm wk far all rs ∧ w.heap.size ≤ x ∧ w.heap.size ≤ wh) ∧ Below w.heap.size w w' := by
  have hmm := @run_makeMap Tryz.prog
  go_enter Tryz.func28, Tryz.ntmps28
  go_wp2_with fail
  refine (good1 _).mono ?_
  rintro e w1 ⟨rfl, hb1⟩
  have c0 : w1.cell? ⟨w.heap.size, 0, none⟩ = some (.int .i64 0) := cell_later' hb1 (World.cell?_alloc_new w _ _ 0)
  have c1 : w1.cell? ⟨w.heap.size, 1, none⟩ = some (.int .i64 0) := cell_later' hb1 (World.cell?_alloc_new w _ _ 1)
  have c2 : w1.cell? ⟨w.heap.size, 2, none⟩ = some (.int .i64 0) := cell_later' hb1 (World.cell?_alloc_new w _ _ 2)
  have c3 : w1.cell? ⟨w.heap.size, 3, none⟩ = some (.int .i64 1) := cell_later' hb1 (World.cell?_alloc_new w _ _ 3)
  have c4 : w1.cell? ⟨w.heap.size, 4, none⟩ = some (.int .u64 1) := cell_later' hb1 (World.cell?_alloc_new w _ _ 4)
  have c5 : w1.cell? ⟨w.heap.size, 5, none⟩ = some (.int .u64 1) := cell_later' hb1 (World.cell?_alloc_new w _ _ 5)
  have S0 := Kept.mk (And.intro c0 (And.intro c1 (And.intro c2 (And.intro c3 (And.intro c4 c5)))))
  have HB : Kept (Below w.heap.size w w1) := ⟨((Below.refl _ _).alloc (Nat.le_refl _) _).trans (hb1.mono (by simp))⟩
  have hs := hb1.size
  clear c0 c1 c2 c3 c4 c5 hb1
  go_upto_region 3 with fail
  go_region_held3 (fun w' => w'.cell? ⟨w.heap.size, 0, none⟩ = some (.int .i64 0) ∧ w'.cell? ⟨w.heap.size, 1, none⟩ = some (.int .i64 0) ∧ w'.cell? ⟨w.heap.size, 2, none⟩ = some (.int .i64 0) ∧ w'.cell? ⟨w.heap.size, 3, none⟩ = some (.int .i64 1) ∧ w'.cell? ⟨w.heap.size, 4, none⟩ = some (.int .u64 1) ∧ w'.cell? ⟨w.heap.size, 5, none⟩ = some (.int .u64 1))
    (repeat (first | with_reducible assumption | with_reducible exact S0.out | with_reducible refine six_drew ?_ | with_reducible refine six_alloc ?_))
    (first
      | (go_at_call 48; refine (jobs_new _).mono ?_; rintro e x2 ⟨⟨b, rfl⟩, hb2⟩; have hS2 := six_below (by assumption) hb2)
      | (go_at_call 49; refine (wheel_new _).mono ?_; rintro e x3 ⟨⟨wh, far, all, rs, rfl, he3, hwh⟩, hb3⟩; have hS3 := six_below (by assumption) hb3))
  all_goals
    have HB3 : Kept (Below w.heap.size w x3) := ⟨by repeat (first | with_reducible exact HB.out | with_reducible refine bl_a ?_ | with_reducible refine bl_d ?_ | with_reducible refine bl_c hb3 ?_ | with_reducible refine bl_c hb2 ?_)⟩
    have HE3 := Kept.mk he3
    have hwh3 : w.heap.size ≤ wh := by have h1 := hwh; have h2 := hb2.size; have h3 := hs; simp at h1 h2 h3; omega
    clear he3 hwh hb2 hb3 HB S0
    go_wp2_with fail
    go_ret2
    refine ⟨⟨_, b, wh, _, _, far, all, rs, rfl, ⟨Whole.new' _ _ _ _ (by simp), ?_, ?_⟩, ?_, hwh3⟩, ?_⟩
    · repeat (first | with_reducible exact HE3.out | with_reducible refine EmptyWheel.al ?_ | with_reducible refine EmptyWheel.dr ?_)
    · exact apart_of HE3.out (by omega)
    · have := HB3.out.size; omega
    · repeat (first | with_reducible exact HB3.out | with_reducible refine bl_a ?_ | with_reducible refine bl_d ?_)
end Go.Proofs.YtdlieanhdbbhiaaGreatDoor
