/- Walks: an engine without models: Do. -/
import Derived.Test.YtdlieanhdbbhiaaGreatDoorEngE
import Derived.Laws.EntriesVeiled
set_option linter.unusedVariables false
set_option linter.unusedSimpArgs false
namespace Go.Proofs.YtdlieanhdbbhiaaGreatDoor
open Go.RowKit

abbrev opAgg (k i n : Int) (t : Value) (a : Option Addr) (l c : Nat) : Array Value := #[.int .i64 k, .int .i64 i, .int .u64 n, t, .slice a l c]
abbrev funCells : Array Value := #[.nilFunc, .func (.func 74) #[] #[], .func (.func 75) #[] #[], .func (.func 76) #[] #[], .func (.func 77) #[] #[], .func (.func 78) #[] #[], .func (.func 79) #[] #[], .func (.func 80) #[] #[]]
theorem Only.cell {w w' : World} {S : Nat → Prop} {a : Addr} {v : Value} (h : Only w w' S) (hc : w.cell? a = some v) (hne : ¬ S a.block) : w'.cell? a = some v := by
  rw [World.cell?_of_block (w := w) (h.block a.block (World.block_lt_of_cell? w a hc) hne)]; exact hc
theorem six_below {W W' : World} {a0 a1 a2 a3 a4 a5 : Addr} {v0 v1 v2 v3 v4 v5 : Value} (h : W.cell? a0 = some v0 ∧ W.cell? a1 = some v1 ∧ W.cell? a2 = some v2 ∧ W.cell? a3 = some v3 ∧ W.cell? a4 = some v4 ∧ W.cell? a5 = some v5) (hb : Below W.heap.size W W') :
    W'.cell? a0 = some v0 ∧ W'.cell? a1 = some v1 ∧ W'.cell? a2 = some v2 ∧ W'.cell? a3 = some v3 ∧ W'.cell? a4 = some v4 ∧ W'.cell? a5 = some v5 :=
  ⟨cell_later' hb h.1, cell_later' hb h.2.1, cell_later' hb h.2.2.1, cell_later' hb h.2.2.2.1, cell_later' hb h.2.2.2.2.1, cell_later' hb h.2.2.2.2.2⟩
theorem six_alloc {W : World} {o : Obj} {a0 a1 a2 a3 a4 a5 : Addr} {v0 v1 v2 v3 v4 v5 : Value} (h : W.cell? a0 = some v0 ∧ W.cell? a1 = some v1 ∧ W.cell? a2 = some v2 ∧ W.cell? a3 = some v3 ∧ W.cell? a4 = some v4 ∧ W.cell? a5 = some v5) :
    (W.alloc o).cell? a0 = some v0 ∧ (W.alloc o).cell? a1 = some v1 ∧ (W.alloc o).cell? a2 = some v2 ∧ (W.alloc o).cell? a3 = some v3 ∧ (W.alloc o).cell? a4 = some v4 ∧ (W.alloc o).cell? a5 = some v5 := six_below h ((Below.refl _ _).alloc (Nat.le_refl _) _)
theorem six_alloc_d {W : World} {o : Obj} {a0 a1 a2 a3 a4 a5 : Addr} {v0 v1 v2 v3 v4 v5 : Value} (h : W.cell? a0 = some v0 ∧ W.cell? a1 = some v1 ∧ W.cell? a2 = some v2 ∧ W.cell? a3 = some v3 ∧ W.cell? a4 = some v4 ∧ W.cell? a5 = some v5) :
    (W.alloc o).drew.cell? a0 = some v0 ∧ (W.alloc o).drew.cell? a1 = some v1 ∧ (W.alloc o).drew.cell? a2 = some v2 ∧ (W.alloc o).drew.cell? a3 = some v3 ∧ (W.alloc o).drew.cell? a4 = some v4 ∧ (W.alloc o).drew.cell? a5 = some v5 := six_alloc h
theorem six_drew {W : World} {a0 a1 a2 a3 a4 a5 : Addr} {v0 v1 v2 v3 v4 v5 : Value} (h : W.cell? a0 = some v0 ∧ W.cell? a1 = some v1 ∧ W.cell? a2 = some v2 ∧ W.cell? a3 = some v3 ∧ W.cell? a4 = some v4 ∧ W.cell? a5 = some v5) :
    W.drew.cell? a0 = some v0 ∧ W.drew.cell? a1 = some v1 ∧ W.drew.cell? a2 = some v2 ∧ W.drew.cell? a3 = some v3 ∧ W.drew.cell? a4 = some v4 ∧ W.drew.cell? a5 = some v5 := h
theorem six_only {W W' : World} {S : Nat → Prop} {a0 a1 a2 a3 a4 a5 : Addr} {v0 v1 v2 v3 v4 v5 : Value} (h : W.cell? a0 = some v0 ∧ W.cell? a1 = some v1 ∧ W.cell? a2 = some v2 ∧ W.cell? a3 = some v3 ∧ W.cell? a4 = some v4 ∧ W.cell? a5 = some v5) (ho : Only W W' S) (hn : ¬ S a0.block ∧ ¬ S a1.block ∧ ¬ S a2.block ∧ ¬ S a3.block ∧ ¬ S a4.block ∧ ¬ S a5.block) :
    W'.cell? a0 = some v0 ∧ W'.cell? a1 = some v1 ∧ W'.cell? a2 = some v2 ∧ W'.cell? a3 = some v3 ∧ W'.cell? a4 = some v4 ∧ W'.cell? a5 = some v5 :=
  ⟨ho.cell h.1 hn.1, ho.cell h.2.1 hn.2.1, ho.cell h.2.2.1 hn.2.2.1, ho.cell h.2.2.2.1 hn.2.2.2.1, ho.cell h.2.2.2.2.1 hn.2.2.2.2.1, ho.cell h.2.2.2.2.2 hn.2.2.2.2.2⟩
theorem cell_nine {W : World} {d : Nat} {a : Addr} {v : Value} (h : W.cell? a = some v) (hd : a.block ≠ d) (u0 u1 u2 u3 u4 u5 u6 u7 u8 : Value) : (((((((((W.setCell ⟨d, 0, none⟩ u0).setCell ⟨d, 1, none⟩ u1).setCell ⟨d, 2, none⟩ u2).setCell ⟨d, 3, none⟩ u3).setCell ⟨d, 4, none⟩ u4).setCell ⟨d, 5, none⟩ u5).setCell ⟨d, 6, none⟩ u6).setCell ⟨d, 7, none⟩ u7).setCell ⟨d, 8, none⟩ u8).cell? a = some v := by
  rw [cell_far _ (show a.block ≠ d from hd), cell_far _ (show a.block ≠ d from hd), cell_far _ (show a.block ≠ d from hd), cell_far _ (show a.block ≠ d from hd), cell_far _ (show a.block ≠ d from hd), cell_far _ (show a.block ≠ d from hd), cell_far _ (show a.block ≠ d from hd), cell_far _ (show a.block ≠ d from hd), cell_far _ (show a.block ≠ d from hd)]
  exact h
theorem six_nine {W : World} {d : Nat} {a0 a1 a2 a3 a4 a5 : Addr} {v0 v1 v2 v3 v4 v5 : Value} (h : W.cell? a0 = some v0 ∧ W.cell? a1 = some v1 ∧ W.cell? a2 = some v2 ∧ W.cell? a3 = some v3 ∧ W.cell? a4 = some v4 ∧ W.cell? a5 = some v5) (hn : a0.block ≠ d ∧ a1.block ≠ d ∧ a2.block ≠ d ∧ a3.block ≠ d ∧ a4.block ≠ d ∧ a5.block ≠ d) (u0 u1 u2 u3 u4 u5 u6 u7 u8 : Value) :
    (((((((((W.setCell ⟨d, 0, none⟩ u0).setCell ⟨d, 1, none⟩ u1).setCell ⟨d, 2, none⟩ u2).setCell ⟨d, 3, none⟩ u3).setCell ⟨d, 4, none⟩ u4).setCell ⟨d, 5, none⟩ u5).setCell ⟨d, 6, none⟩ u6).setCell ⟨d, 7, none⟩ u7).setCell ⟨d, 8, none⟩ u8).cell? a0 = some v0 ∧ (((((((((W.setCell ⟨d, 0, none⟩ u0).setCell ⟨d, 1, none⟩ u1).setCell ⟨d, 2, none⟩ u2).setCell ⟨d, 3, none⟩ u3).setCell ⟨d, 4, none⟩ u4).setCell ⟨d, 5, none⟩ u5).setCell ⟨d, 6, none⟩ u6).setCell ⟨d, 7, none⟩ u7).setCell ⟨d, 8, none⟩ u8).cell? a1 = some v1 ∧ (((((((((W.setCell ⟨d, 0, none⟩ u0).setCell ⟨d, 1, none⟩ u1).setCell ⟨d, 2, none⟩ u2).setCell ⟨d, 3, none⟩ u3).setCell ⟨d, 4, none⟩ u4).setCell ⟨d, 5, none⟩ u5).setCell ⟨d, 6, none⟩ u6).setCell ⟨d, 7, none⟩ u7).setCell ⟨d, 8, none⟩ u8).cell? a2 = some v2 ∧ (((((((((W.setCell ⟨d, 0, none⟩ u0).setCell ⟨d, 1, none⟩ u1).setCell ⟨d, 2, none⟩ u2).setCell ⟨d, 3, none⟩ u3).setCell ⟨d, 4, none⟩ u4).setCell ⟨d, 5, none⟩ u5).setCell ⟨d, 6, none⟩ u6).setCell ⟨d, 7, none⟩ u7).setCell ⟨d, 8, none⟩ u8).cell? a3 = some v3 ∧ (((((((((W.setCell ⟨d, 0, none⟩ u0).setCell ⟨d, 1, none⟩ u1).setCell ⟨d, 2, none⟩ u2).setCell ⟨d, 3, none⟩ u3).setCell ⟨d, 4, none⟩ u4).setCell ⟨d, 5, none⟩ u5).setCell ⟨d, 6, none⟩ u6).setCell ⟨d, 7, none⟩ u7).setCell ⟨d, 8, none⟩ u8).cell? a4 = some v4 ∧ (((((((((W.setCell ⟨d, 0, none⟩ u0).setCell ⟨d, 1, none⟩ u1).setCell ⟨d, 2, none⟩ u2).setCell ⟨d, 3, none⟩ u3).setCell ⟨d, 4, none⟩ u4).setCell ⟨d, 5, none⟩ u5).setCell ⟨d, 6, none⟩ u6).setCell ⟨d, 7, none⟩ u7).setCell ⟨d, 8, none⟩ u8).cell? a5 = some v5 :=
  ⟨cell_nine h.1 hn.1 u0 u1 u2 u3 u4 u5 u6 u7 u8, cell_nine h.2.1 hn.2.1 u0 u1 u2 u3 u4 u5 u6 u7 u8, cell_nine h.2.2.1 hn.2.2.1 u0 u1 u2 u3 u4 u5 u6 u7 u8, cell_nine h.2.2.2.1 hn.2.2.2.1 u0 u1 u2 u3 u4 u5 u6 u7 u8, cell_nine h.2.2.2.2.1 hn.2.2.2.2.1 u0 u1 u2 u3 u4 u5 u6 u7 u8, cell_nine h.2.2.2.2.2 hn.2.2.2.2.2 u0 u1 u2 u3 u4 u5 u6 u7 u8⟩
/-- behind Do's first steps -/
structure DoAt (w wx : World) (x b wh tm wk far all : Nat) (rs : List Nat) (op : Array Value) (clk : Int) : Prop where
  eng : Eng wx x clk b wh tm wk far all rs
  op : Whole wx w.heap.size 40 op
  out : Whole wx (w.heap.size + 1) 28 outZero
  fns : Whole wx (w.heap.size + 1 + 1) 148 funCells
  only : Only w wx (fun j => j = x ∨ j = wh)
  old : Eng w x clk b wh tm wk far all rs
theorem DoAt.start (w : World) (x b wh tm wk far all : Nat) (rs : List Nat) (op : Array Value) (clk : Int) (h : Eng w x clk b wh tm wk far all rs) :
    DoAt w (((w.alloc (.cells op 40)).alloc (.cells outZero 28)).alloc (.cells funCells 148)) x b wh tm wk far all rs op clk where
  eng := ((h.later ((Below.refl _ _).alloc (Nat.le_refl _) _)).later ((Below.refl _ _).alloc (Nat.le_refl _) _)).later ((Below.refl _ _).alloc (Nat.le_refl _) _)
  op := ((Whole.new w _ op).alloc _).alloc _
  out := by
    have := (Whole.new (w.alloc (.cells op 40)) 28 outZero).alloc (.cells funCells 148)
    rw [show (w.alloc (.cells op 40)).heap.size = w.heap.size + 1 by simp] at this
    exact this
  fns := by
    have := Whole.new ((w.alloc (.cells op 40)).alloc (.cells outZero 28)) 148 funCells
    rw [show ((w.alloc (.cells op 40)).alloc (.cells outZero 28)).heap.size = w.heap.size + 1 + 1 by simp] at this
    exact this
  only := (((Only.refl _ _).alloc _).alloc _).alloc _
  old := h
theorem DoAt.told {w wx : World} {x b wh tm wk far all : Nat} {rs : List Nat} {op : Array Value} {clk : Int} (h : DoAt w wx x b wh tm wk far all rs op clk) : DoAt w (wx.setCell ⟨x, 15, none⟩ (.slice none 0 0)) x b wh tm wk far all rs op clk where
  eng := ⟨h.eng.row.set 15 (.slice none 0 0), h.eng.wheel.clock h.eng.apart _ _, h.eng.apart⟩
  op := h.op.far (by have := h.old.lt; show w.heap.size ≠ x; omega) _
  out := h.out.far (by have := h.old.lt; show w.heap.size + 1 ≠ x; omega) _
  fns := h.fns.far (by have := h.old.lt; show w.heap.size + 1 + 1 ≠ x; omega) _
  only := h.only.set x 15 _ (.inr (.inl rfl))
  old := h.old

set_option maxRecDepth 1000000 in
set_option maxHeartbeats 6400000 in
theorem do_tick (w : World) (x b wh tm wk far all : Nat) (rs : List Nat) (h : Kept (Eng w x 0 b wh tm wk far all rs)) (s : ByteArray) (a : Option Addr) (l c : Nat) :
    Calls Tryz.prog 50 #[ptr x, .agg (opAgg 3 0 5 (.string s) a l c)] w fun e w' => e = .returned (.agg (outZero)) ∧ Eng w' x 5 b wh tm wk far all rs ∧ Only w w' (fun j => j = x ∨ j = wh) := by
  have hlt := h.out.lt
  have hltw := h.out.wheel.lt
  unfold ptr
  go_enter Tryz.func50, Tryz.ntmps50
  go_upto_region 4 with (first | (go_at_call 70; refine (in_yes 3 1 7 (by omega) (by omega) _).mono ?_; rintro e w1 ⟨rfl, rfl⟩) | fail)
  have D0 := Kept.mk (DoAt.start w x b wh tm wk far all rs (opAgg 3 0 5 (.string s) a l c) 0 h.out)
  have c15 : (((w.alloc (.cells (opAgg 3 0 5 (.string s) a l c) 40)).alloc (.cells outZero 28)).alloc (.cells funCells 148)).cell? ⟨x, 15, none⟩ = some (.slice none 0 0) := D0.out.eng.row.cell 15
  have f15 : (((w.alloc (.cells (opAgg 3 0 5 (.string s) a l c) 40)).alloc (.cells outZero 28)).alloc (.cells funCells 148)).frozen? ⟨x, 15, none⟩ = false := D0.out.eng.row.free 15
  go_cut [] (fun wx => Kept (DoAt w wx x b wh tm wk far all rs (opAgg 3 0 5 (.string s) a l c) 0))
  case first =>
    go_wp2_with fail
    go_meet
    exact ⟨D0.out.told⟩
  case rest =>
    have D1 := hcut
    clear D0 c15 f15
    go_upto_region 5 with fail
    have o0 : wc.cell? ⟨w.heap.size, 0, none⟩ = some (.int .i64 3) := D1.out.op.cell 0
    have o1 : wc.cell? ⟨w.heap.size, 1, none⟩ = some (.int .i64 0) := D1.out.op.cell 1
    have o2 : wc.cell? ⟨w.heap.size, 2, none⟩ = some (.int .u64 5) := D1.out.op.cell 2
    have o3 : wc.cell? ⟨w.heap.size, 3, none⟩ = some (.string s) := D1.out.op.cell 3
    have o4 : wc.cell? ⟨w.heap.size, 4, none⟩ = some (.slice a l c) := D1.out.op.cell 4
    have ofn : wc.cell? ⟨w.heap.size + 1 + 1, 3, none⟩ = some (.func (.func 76) #[] #[]) := D1.out.fns.cell 3
    have S0 := Kept.mk (And.intro o0 (And.intro o1 (And.intro o2 (And.intro o3 (And.intro o4 ofn)))))
    clear o0 o1 o2 o3 o4 ofn
    have hfl := D1.out.fns.lt
    have N6 : Kept ((w.heap.size ≠ wc.heap.size) ∧ (w.heap.size ≠ wc.heap.size) ∧ (w.heap.size ≠ wc.heap.size) ∧ (w.heap.size ≠ wc.heap.size) ∧ (w.heap.size ≠ wc.heap.size) ∧ (w.heap.size + 1 + 1 ≠ wc.heap.size)) := ⟨by omega⟩
    have M6 : Kept (¬ (w.heap.size = x ∨ w.heap.size = wh) ∧ ¬ (w.heap.size = x ∨ w.heap.size = wh) ∧ ¬ (w.heap.size = x ∨ w.heap.size = wh) ∧ ¬ (w.heap.size = x ∨ w.heap.size = wh) ∧ ¬ (w.heap.size = x ∨ w.heap.size = wh) ∧ ¬ (w.heap.size + 1 + 1 = x ∨ w.heap.size + 1 + 1 = wh)) := ⟨by omega⟩
    clear hfl
    go_cut [6] (fun v wx => ∃ d, v = .pointer (some ⟨d, 0, none⟩) ∧ Kept (Whole wx d 28 (outZero) ∧ w.heap.size + 3 ≤ d ∧ Eng wx x 5 b wh tm wk far all rs ∧ Whole wx (w.heap.size + 1) 28 outZero ∧ Only w wx (fun j => j = x ∨ j = wh)))
    case first =>
      go_region_held3 (fun w' => w'.cell? ⟨w.heap.size, 0, none⟩ = some (.int .i64 3) ∧ w'.cell? ⟨w.heap.size, 1, none⟩ = some (.int .i64 0) ∧ w'.cell? ⟨w.heap.size, 2, none⟩ = some (.int .u64 5) ∧ w'.cell? ⟨w.heap.size, 3, none⟩ = some (.string s) ∧ w'.cell? ⟨w.heap.size, 4, none⟩ = some (.slice a l c) ∧ w'.cell? ⟨w.heap.size + 1 + 1, 3, none⟩ = some (.func (.func 76) #[] #[]))
        (first
          | (with_reducible exact six_nine (by assumption) N6.out _ _ _ _ _ _ _ _ _)
          | (with_reducible assumption)
          | (with_reducible exact six_alloc (by assumption))
          | (with_reducible exact six_alloc_d (by assumption))
          | (with_reducible exact six_drew S0.out)
          | (with_reducible exact six_alloc_d S0.out)
          | (with_reducible exact six_drew (by assumption))
          | exact S0.out)
        (first
          | (go_at_call 76; (with_reducible refine (eng_tick wc.drew x b wh tm wk far all rs ⟨D1.out.eng.later (below_drew0 _ _)⟩ (.string s) (.slice a l c) 3 0).mono ?_); rintro e w2 ⟨rfl, hp2⟩; obtain ⟨he2, ho2⟩ := hp2; have HO := (D1.out.out.later (below_drew0 _ _)).only ho2 (by omega); have HY := (D1.out.only.trans (Only.below (below_drew0 _ _) _)).trans ho2; have hz := D1.out.fns.lt; have hz2 := ho2.size; have hS2 := six_only (six_drew S0.out) ho2 M6.out)
          | (go_at_call 76; (with_reducible refine (eng_tick (wc.alloc (.cells outZero 28)).drew x b wh tm wk far all rs ⟨(D1.out.eng.later ((Below.refl _ _).alloc (Nat.le_refl _) _)).later (below_drew0 _ _)⟩ (.string s) (.slice a l c) 3 0).mono ?_); rintro e w2 ⟨rfl, hp2⟩; obtain ⟨he2, ho2⟩ := hp2; have hz := D1.out.fns.lt; have HO := ((D1.out.out.alloc (.cells outZero 28)).later (below_drew0 _ _)).only ho2 (by omega); have HY := ((D1.out.only.alloc (.cells outZero 28)).trans (Only.below (below_drew0 _ _) _)).trans ho2; have hd := ((Whole.new wc 28 outZero).later (below_drew0 _ _)).only ho2 (by have := D1.out.eng.lt; have := D1.out.eng.wheel.lt; omega); have z0 := hd.cell 0; have y0 := hd.free 0; have z1 := hd.cell 1; have y1 := hd.free 1; have z2 := hd.cell 2; have y2 := hd.free 2; have z3 := hd.cell 3; have y3 := hd.free 3; have z4 := hd.cell 4; have y4 := hd.free 4; have z5 := hd.cell 5; have y5 := hd.free 5; have z6 := hd.cell 6; have y6 := hd.free 6; have z7 := hd.cell 7; have y7 := hd.free 7; have z8 := hd.cell 8; have y8 := hd.free 8; have hS2 := six_only (six_alloc_d S0.out) ho2 M6.out))
      · go_wp2_with fail
        go_meet
        exact ⟨_, rfl, ⟨Whole.new _ _ _, by simp at hz2; omega, he2.later ((Below.refl _ _).alloc (Nat.le_refl _) _), HO.alloc _, HY.alloc _⟩⟩
      · go_wp2_with fail
        go_meet
        exact ⟨_, rfl, ⟨set_nine hd _ _ _ _ _ _ _ _ _, by omega, eng_nine D1.out.eng he2 (Nat.le_refl _) _ _ _ _ _ _ _ _ _, set_nine_far HO (by omega) _ _ _ _ _ _ _ _ _, only_nine HY (.inl (by omega)) _ _ _ _ _ _ _ _ _⟩⟩
    case rest =>
      obtain ⟨d, rfl, HD⟩ := hcut
      clear D1 S0
      go_upto_region 6 with fail
      have e15 : wc.cell? ⟨x, 15, none⟩ = some (.slice none 0 0) := HD.out.2.2.1.row.cell 15
      have g15 : wc.frozen? ⟨x, 15, none⟩ = false := HD.out.2.2.1.row.free 15
      have d8 : wc.cell? ⟨d, 8, none⟩ = some (.slice none 0 0) := HD.out.1.cell 8
      have g8 : wc.frozen? ⟨d, 8, none⟩ = false := HD.out.1.free 8
      go_cut [] (fun wx => Kept (Whole wx d 28 (outZero) ∧ w.heap.size + 3 ≤ d ∧ Eng wx x 5 b wh tm wk far all rs ∧ Whole wx (w.heap.size + 1) 28 outZero ∧ Only w wx (fun j => j = x ∨ j = wh)))
      case first =>
        have hdx : d ≠ x := by have := HD.out.2.1; omega
        have e15' : (wc.setCell ⟨d, 8, none⟩ (.slice none 0 0)).cell? ⟨x, 15, none⟩ = some (.slice none 0 0) := by rw [cell_far _ (show x ≠ d by omega)]; exact e15
        have g15' : (wc.setCell ⟨d, 8, none⟩ (.slice none 0 0)).frozen? ⟨x, 15, none⟩ = false := by rw [World.frozen?_of_block (w := wc) (Deep.blk_setCell_other _ _ _ _ (show x ≠ d by omega))]; exact g15
        go_wp2_with fail
        go_meet
        obtain ⟨q1, q2, q3, q4, q5⟩ := HD.out
        have hx := q3.apart
        have r1 := q1.set 8 (.slice none 0 0)
        have r3 := Eng.set_new h.out q3 ⟨d, 8, none⟩ (by show w.heap.size ≤ d; omega) (.slice none 0 0)
        have r4 := q4.far (p := ⟨d, 8, none⟩) (by show w.heap.size + 1 ≠ d; omega) (.slice none 0 0)
        have r5 := q5.set d 8 (.slice none 0 0) (.inl (by omega))
        exact ⟨⟨r1.far (by show d ≠ x; omega) _, q2, ⟨r3.row.set 15 (.slice none 0 0), r3.wheel.clock hx _ _, hx⟩, r4.far (by show w.heap.size + 1 ≠ x; omega) _, r5.set x 15 _ (.inr (.inl rfl))⟩⟩
      case rest =>
        have HD2 := hcut
        clear HD e15 g15 d8 g8
        go_upto_region 7 with fail
        have q0 := HD2.out.1.cell 0
        have q1 := HD2.out.1.cell 1
        have q2 := HD2.out.1.cell 2
        have q3 := HD2.out.1.cell 3
        have q4 := HD2.out.1.cell 4
        have q5 := HD2.out.1.cell 5
        have q6 := HD2.out.1.cell 6
        have q7 := HD2.out.1.cell 7
        have q8 := HD2.out.1.cell 8
        have p0 := HD2.out.2.2.2.1.free 0
        have t0 := HD2.out.2.2.2.1.cell 0
        have p1 := HD2.out.2.2.2.1.free 1
        have t1 := HD2.out.2.2.2.1.cell 1
        have p2 := HD2.out.2.2.2.1.free 2
        have t2 := HD2.out.2.2.2.1.cell 2
        have p3 := HD2.out.2.2.2.1.free 3
        have t3 := HD2.out.2.2.2.1.cell 3
        have p4 := HD2.out.2.2.2.1.free 4
        have t4 := HD2.out.2.2.2.1.cell 4
        have p5 := HD2.out.2.2.2.1.free 5
        have t5 := HD2.out.2.2.2.1.cell 5
        have p6 := HD2.out.2.2.2.1.free 6
        have t6 := HD2.out.2.2.2.1.cell 6
        have p7 := HD2.out.2.2.2.1.free 7
        have t7 := HD2.out.2.2.2.1.cell 7
        have p8 := HD2.out.2.2.2.1.free 8
        have t8 := HD2.out.2.2.2.1.cell 8
        go_cut [] (fun wx => Kept (Whole wx (w.heap.size + 1) 28 (outZero) ∧ Eng wx x 5 b wh tm wk far all rs ∧ Only w wx (fun j => j = x ∨ j = wh)))
        case first =>
          go_wp2_with fail
          go_meet
          exact ⟨⟨set_nine HD2.out.2.2.2.1 _ _ _ _ _ _ _ _ _, eng_nine h.out HD2.out.2.2.1 (by omega) _ _ _ _ _ _ _ _ _, only_nine HD2.out.2.2.2.2 (.inl (by omega)) _ _ _ _ _ _ _ _ _⟩⟩
        case rest =>
          have HD3 := hcut
          clear HD2 q0 q1 q2 q3 q4 q5 q6 q7 q8 p0 p1 p2 p3 p4 p5 p6 p7 p8 t0 t1 t2 t3 t4 t5 t6 t7 t8
          have q0 := HD3.out.1.cell 0
          have q1 := HD3.out.1.cell 1
          have q2 := HD3.out.1.cell 2
          have q3 := HD3.out.1.cell 3
          have q4 := HD3.out.1.cell 4
          have q5 := HD3.out.1.cell 5
          have q6 := HD3.out.1.cell 6
          have q7 := HD3.out.1.cell 7
          have q8 := HD3.out.1.cell 8
          go_wp2_with fail
          refine bodyPost_ret (v := .agg (outZero)) (by simp [results, Tryz.results50, go_sem, q0, q1, q2, q3, q4, q5, q6, q7, q8]) rfl ⟨rfl, HD3.out.2.1, HD3.out.2.2⟩
set_option maxRecDepth 1000000 in
set_option maxHeartbeats 6400000 in
theorem do_look (w : World) (x b wh tm wk far all : Nat) (rs : List Nat) (clk : Int) (h : Kept (Eng w x clk b wh tm wk far all rs)) (s : ByteArray) (a : Option Addr) (l c : Nat) :
    Calls Tryz.prog 50 #[ptr x, .agg (opAgg 7 1 0 (.string s) a l c)] w fun e w' => e = .returned (.agg (outZero.setIfInBounds 0 (.int .i64 7))) ∧ Eng w' x clk b wh tm wk far all rs ∧ Only w w' (fun j => j = x ∨ j = wh) := by
  have hlt := h.out.lt
  have hltw := h.out.wheel.lt
  unfold ptr
  go_enter Tryz.func50, Tryz.ntmps50
  go_upto_region 4 with (first | (go_at_call 70; refine (in_yes 7 1 7 (by omega) (by omega) _).mono ?_; rintro e w1 ⟨rfl, rfl⟩) | fail)
  have D0 := Kept.mk (DoAt.start w x b wh tm wk far all rs (opAgg 7 1 0 (.string s) a l c) clk h.out)
  have c15 : (((w.alloc (.cells (opAgg 7 1 0 (.string s) a l c) 40)).alloc (.cells outZero 28)).alloc (.cells funCells 148)).cell? ⟨x, 15, none⟩ = some (.slice none 0 0) := D0.out.eng.row.cell 15
  have f15 : (((w.alloc (.cells (opAgg 7 1 0 (.string s) a l c) 40)).alloc (.cells outZero 28)).alloc (.cells funCells 148)).frozen? ⟨x, 15, none⟩ = false := D0.out.eng.row.free 15
  go_cut [] (fun wx => Kept (DoAt w wx x b wh tm wk far all rs (opAgg 7 1 0 (.string s) a l c) clk))
  case first =>
    go_wp2_with fail
    go_meet
    exact ⟨D0.out.told⟩
  case rest =>
    have D1 := hcut
    clear D0 c15 f15
    go_upto_region 5 with fail
    have o0 : wc.cell? ⟨w.heap.size, 0, none⟩ = some (.int .i64 7) := D1.out.op.cell 0
    have o1 : wc.cell? ⟨w.heap.size, 1, none⟩ = some (.int .i64 1) := D1.out.op.cell 1
    have o2 : wc.cell? ⟨w.heap.size, 2, none⟩ = some (.int .u64 0) := D1.out.op.cell 2
    have o3 : wc.cell? ⟨w.heap.size, 3, none⟩ = some (.string s) := D1.out.op.cell 3
    have o4 : wc.cell? ⟨w.heap.size, 4, none⟩ = some (.slice a l c) := D1.out.op.cell 4
    have ofn : wc.cell? ⟨w.heap.size + 1 + 1, 7, none⟩ = some (.func (.func 80) #[] #[]) := D1.out.fns.cell 7
    have S0 := Kept.mk (And.intro o0 (And.intro o1 (And.intro o2 (And.intro o3 (And.intro o4 ofn)))))
    clear o0 o1 o2 o3 o4 ofn
    have hfl := D1.out.fns.lt
    have N6 : Kept ((w.heap.size ≠ wc.heap.size) ∧ (w.heap.size ≠ wc.heap.size) ∧ (w.heap.size ≠ wc.heap.size) ∧ (w.heap.size ≠ wc.heap.size) ∧ (w.heap.size ≠ wc.heap.size) ∧ (w.heap.size + 1 + 1 ≠ wc.heap.size)) := ⟨by omega⟩
    have M6 : Kept (¬ (w.heap.size = x ∨ w.heap.size = wh) ∧ ¬ (w.heap.size = x ∨ w.heap.size = wh) ∧ ¬ (w.heap.size = x ∨ w.heap.size = wh) ∧ ¬ (w.heap.size = x ∨ w.heap.size = wh) ∧ ¬ (w.heap.size = x ∨ w.heap.size = wh) ∧ ¬ (w.heap.size + 1 + 1 = x ∨ w.heap.size + 1 + 1 = wh)) := ⟨by omega⟩
    clear hfl
    go_cut [6] (fun v wx => ∃ d, v = .pointer (some ⟨d, 0, none⟩) ∧ Kept (Whole wx d 28 (outZero.setIfInBounds 0 (.int .i64 7)) ∧ w.heap.size + 3 ≤ d ∧ Eng wx x clk b wh tm wk far all rs ∧ Whole wx (w.heap.size + 1) 28 outZero ∧ Only w wx (fun j => j = x ∨ j = wh)))
    case first =>
      go_region_held3 (fun w' => w'.cell? ⟨w.heap.size, 0, none⟩ = some (.int .i64 7) ∧ w'.cell? ⟨w.heap.size, 1, none⟩ = some (.int .i64 1) ∧ w'.cell? ⟨w.heap.size, 2, none⟩ = some (.int .u64 0) ∧ w'.cell? ⟨w.heap.size, 3, none⟩ = some (.string s) ∧ w'.cell? ⟨w.heap.size, 4, none⟩ = some (.slice a l c) ∧ w'.cell? ⟨w.heap.size + 1 + 1, 7, none⟩ = some (.func (.func 80) #[] #[]))
        (first
          | (with_reducible exact six_nine (by assumption) N6.out _ _ _ _ _ _ _ _ _)
          | (with_reducible assumption)
          | (with_reducible exact six_alloc (by assumption))
          | (with_reducible exact six_alloc_d (by assumption))
          | (with_reducible exact six_drew S0.out)
          | (with_reducible exact six_alloc_d S0.out)
          | (with_reducible exact six_drew (by assumption))
          | exact S0.out)
        (first
          | (go_at_call 80; (with_reducible refine (eng_look wc.drew x b wh tm wk far all clk rs ⟨D1.out.eng.later (below_drew0 _ _)⟩ (.string s) (.slice a l c) 7 0).mono ?_); rintro e w2 ⟨rfl, hp2⟩; obtain ⟨he2, ho2⟩ := And.intro ((D1.out.eng.later (below_drew0 _ _)).later hp2) (Only.below hp2 (fun j => j = x ∨ j = wh)); have HO := (D1.out.out.later (below_drew0 _ _)).only ho2 (by omega); have HY := (D1.out.only.trans (Only.below (below_drew0 _ _) _)).trans ho2; have hz := D1.out.fns.lt; have hz2 := ho2.size; have hS2 := six_only (six_drew S0.out) ho2 M6.out)
          | (go_at_call 80; (with_reducible refine (eng_look (wc.alloc (.cells outZero 28)).drew x b wh tm wk far all clk rs ⟨(D1.out.eng.later ((Below.refl _ _).alloc (Nat.le_refl _) _)).later (below_drew0 _ _)⟩ (.string s) (.slice a l c) 7 0).mono ?_); rintro e w2 ⟨rfl, hp2⟩; obtain ⟨he2, ho2⟩ := And.intro (((D1.out.eng.later ((Below.refl _ _).alloc (Nat.le_refl _) (.cells outZero 28))).later (below_drew0 _ _)).later hp2) (Only.below hp2 (fun j => j = x ∨ j = wh)); have hz := D1.out.fns.lt; have HO := ((D1.out.out.alloc (.cells outZero 28)).later (below_drew0 _ _)).only ho2 (by omega); have HY := ((D1.out.only.alloc (.cells outZero 28)).trans (Only.below (below_drew0 _ _) _)).trans ho2; have hd := ((Whole.new wc 28 outZero).later (below_drew0 _ _)).only ho2 (by have := D1.out.eng.lt; have := D1.out.eng.wheel.lt; omega); have z0 := hd.cell 0; have y0 := hd.free 0; have z1 := hd.cell 1; have y1 := hd.free 1; have z2 := hd.cell 2; have y2 := hd.free 2; have z3 := hd.cell 3; have y3 := hd.free 3; have z4 := hd.cell 4; have y4 := hd.free 4; have z5 := hd.cell 5; have y5 := hd.free 5; have z6 := hd.cell 6; have y6 := hd.free 6; have z7 := hd.cell 7; have y7 := hd.free 7; have z8 := hd.cell 8; have y8 := hd.free 8; have hS2 := six_only (six_alloc_d S0.out) ho2 M6.out))
      · go_wp2_with fail
        go_meet
        exact ⟨_, rfl, ⟨Whole.new _ _ _, by simp at hz2; omega, he2.later ((Below.refl _ _).alloc (Nat.le_refl _) _), HO.alloc _, HY.alloc _⟩⟩
      · go_wp2_with fail
        go_meet
        exact ⟨_, rfl, ⟨set_nine hd _ _ _ _ _ _ _ _ _, by omega, eng_nine D1.out.eng he2 (Nat.le_refl _) _ _ _ _ _ _ _ _ _, set_nine_far HO (by omega) _ _ _ _ _ _ _ _ _, only_nine HY (.inl (by omega)) _ _ _ _ _ _ _ _ _⟩⟩
    case rest =>
      obtain ⟨d, rfl, HD⟩ := hcut
      clear D1 S0
      go_upto_region 6 with fail
      have e15 : wc.cell? ⟨x, 15, none⟩ = some (.slice none 0 0) := HD.out.2.2.1.row.cell 15
      have g15 : wc.frozen? ⟨x, 15, none⟩ = false := HD.out.2.2.1.row.free 15
      have d8 : wc.cell? ⟨d, 8, none⟩ = some (.slice none 0 0) := HD.out.1.cell 8
      have g8 : wc.frozen? ⟨d, 8, none⟩ = false := HD.out.1.free 8
      go_cut [] (fun wx => Kept (Whole wx d 28 (outZero.setIfInBounds 0 (.int .i64 7)) ∧ w.heap.size + 3 ≤ d ∧ Eng wx x clk b wh tm wk far all rs ∧ Whole wx (w.heap.size + 1) 28 outZero ∧ Only w wx (fun j => j = x ∨ j = wh)))
      case first =>
        have hdx : d ≠ x := by have := HD.out.2.1; omega
        have e15' : (wc.setCell ⟨d, 8, none⟩ (.slice none 0 0)).cell? ⟨x, 15, none⟩ = some (.slice none 0 0) := by rw [cell_far _ (show x ≠ d by omega)]; exact e15
        have g15' : (wc.setCell ⟨d, 8, none⟩ (.slice none 0 0)).frozen? ⟨x, 15, none⟩ = false := by rw [World.frozen?_of_block (w := wc) (Deep.blk_setCell_other _ _ _ _ (show x ≠ d by omega))]; exact g15
        go_wp2_with fail
        go_meet
        obtain ⟨q1, q2, q3, q4, q5⟩ := HD.out
        have hx := q3.apart
        have r1 := q1.set 8 (.slice none 0 0)
        have r3 := Eng.set_new h.out q3 ⟨d, 8, none⟩ (by show w.heap.size ≤ d; omega) (.slice none 0 0)
        have r4 := q4.far (p := ⟨d, 8, none⟩) (by show w.heap.size + 1 ≠ d; omega) (.slice none 0 0)
        have r5 := q5.set d 8 (.slice none 0 0) (.inl (by omega))
        exact ⟨⟨r1.far (by show d ≠ x; omega) _, q2, ⟨r3.row.set 15 (.slice none 0 0), r3.wheel.clock hx _ _, hx⟩, r4.far (by show w.heap.size + 1 ≠ x; omega) _, r5.set x 15 _ (.inr (.inl rfl))⟩⟩
      case rest =>
        have HD2 := hcut
        clear HD e15 g15 d8 g8
        go_upto_region 7 with fail
        have q0 := HD2.out.1.cell 0
        have q1 := HD2.out.1.cell 1
        have q2 := HD2.out.1.cell 2
        have q3 := HD2.out.1.cell 3
        have q4 := HD2.out.1.cell 4
        have q5 := HD2.out.1.cell 5
        have q6 := HD2.out.1.cell 6
        have q7 := HD2.out.1.cell 7
        have q8 := HD2.out.1.cell 8
        have p0 := HD2.out.2.2.2.1.free 0
        have t0 := HD2.out.2.2.2.1.cell 0
        have p1 := HD2.out.2.2.2.1.free 1
        have t1 := HD2.out.2.2.2.1.cell 1
        have p2 := HD2.out.2.2.2.1.free 2
        have t2 := HD2.out.2.2.2.1.cell 2
        have p3 := HD2.out.2.2.2.1.free 3
        have t3 := HD2.out.2.2.2.1.cell 3
        have p4 := HD2.out.2.2.2.1.free 4
        have t4 := HD2.out.2.2.2.1.cell 4
        have p5 := HD2.out.2.2.2.1.free 5
        have t5 := HD2.out.2.2.2.1.cell 5
        have p6 := HD2.out.2.2.2.1.free 6
        have t6 := HD2.out.2.2.2.1.cell 6
        have p7 := HD2.out.2.2.2.1.free 7
        have t7 := HD2.out.2.2.2.1.cell 7
        have p8 := HD2.out.2.2.2.1.free 8
        have t8 := HD2.out.2.2.2.1.cell 8
        go_cut [] (fun wx => Kept (Whole wx (w.heap.size + 1) 28 (outZero.setIfInBounds 0 (.int .i64 7)) ∧ Eng wx x clk b wh tm wk far all rs ∧ Only w wx (fun j => j = x ∨ j = wh)))
        case first =>
          go_wp2_with fail
          go_meet
          exact ⟨⟨set_nine HD2.out.2.2.2.1 _ _ _ _ _ _ _ _ _, eng_nine h.out HD2.out.2.2.1 (by omega) _ _ _ _ _ _ _ _ _, only_nine HD2.out.2.2.2.2 (.inl (by omega)) _ _ _ _ _ _ _ _ _⟩⟩
        case rest =>
          have HD3 := hcut
          clear HD2 q0 q1 q2 q3 q4 q5 q6 q7 q8 p0 p1 p2 p3 p4 p5 p6 p7 p8 t0 t1 t2 t3 t4 t5 t6 t7 t8
          have q0 := HD3.out.1.cell 0
          have q1 := HD3.out.1.cell 1
          have q2 := HD3.out.1.cell 2
          have q3 := HD3.out.1.cell 3
          have q4 := HD3.out.1.cell 4
          have q5 := HD3.out.1.cell 5
          have q6 := HD3.out.1.cell 6
          have q7 := HD3.out.1.cell 7
          have q8 := HD3.out.1.cell 8
          go_wp2_with fail
          refine bodyPost_ret (v := .agg (outZero.setIfInBounds 0 (.int .i64 7))) (by simp [results, Tryz.results50, go_sem, q0, q1, q2, q3, q4, q5, q6, q7, q8]) rfl ⟨rfl, HD3.out.2.1, HD3.out.2.2⟩
end Go.Proofs.YtdlieanhdbbhiaaGreatDoor
