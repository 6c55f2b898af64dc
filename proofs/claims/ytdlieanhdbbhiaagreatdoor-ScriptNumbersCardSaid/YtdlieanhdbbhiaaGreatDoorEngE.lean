/- Walks: an engine without models: its ticks and looks. -/
import Derived.Test.YtdlieanhdbbhiaaGreatDoorEngD
import Derived.Deep.DeepCutAuto
import Derived.Deep.CutBlock
set_option linter.unusedVariables false
set_option linter.unusedSimpArgs false
namespace Go.Proofs.YtdlieanhdbbhiaaGreatDoor
open Go.RowKit

/-- outside some blocks, what was there is as it was -/
structure Only (w w' : World) (S : Nat → Prop) : Prop where
  os : w'.os = w.os
  tape : w'.tape = w.tape
  output : w'.output = w.output
  size : w.heap.size ≤ w'.heap.size
  block : ∀ k, k < w.heap.size → ¬ S k → w'.heap[k]? = w.heap[k]?
theorem Only.refl (w : World) (S : Nat → Prop) : Only w w S := ⟨rfl, rfl, rfl, Nat.le_refl _, fun _ _ _ => rfl⟩
theorem Only.trans {a b c : World} {S : Nat → Prop} (h : Only a b S) (k : Only b c S) : Only a c S :=
  ⟨k.os.trans h.os, k.tape.trans h.tape, k.output.trans h.output, Nat.le_trans h.size k.size, fun i hi hs => (k.block i (Nat.lt_of_lt_of_le hi h.size) hs).trans (h.block i hi hs)⟩
theorem Only.below {w w' : World} (h : Below w.heap.size w w') (S : Nat → Prop) : Only w w' S := ⟨h.os, h.tape, h.output, h.size, fun i hi _ => h.block i hi⟩
theorem Only.grown {w w' : World} {r : Nat} {S : Nat → Prop} (h : w.grownBy w' (some r)) (hr : S r) : Only w w' S :=
  ⟨h.os, h.tape, h.output, h.size, fun i hi hs => h.block i hi (by intro e; cases e; exact hs hr)⟩
theorem Only.set {w0 w : World} {S : Nat → Prop} (h : Only w0 w S) (b i : Nat) (v : Value) (hb : w0.heap.size ≤ b ∨ S b) : Only w0 (w.setCell ⟨b, i, none⟩ v) S :=
  ⟨h.os, h.tape, h.output, by rw [Deep.nblk_setCell]; exact h.size, fun k hk hs => by
    rw [Deep.blk_setCell_other _ _ _ _ (by
      show k ≠ b
      intro e
      subst e
      rcases hb with hb | hb
      · omega
      · exact hs hb)]
    exact h.block k hk hs⟩
theorem Only.alloc {w0 w : World} {S : Nat → Prop} (h : Only w0 w S) (o : Obj) : Only w0 (w.alloc o) S := h.trans (Only.below ((Below.refl _ _).alloc (Nat.le_refl _) _) S)
theorem Only.drewN {w0 w : World} {S : Nat → Prop} (h : Only w0 w S) (n : Nat) : Only w0 (w.drewN n) S := ⟨h.os, h.tape, h.output, h.size, h.block⟩
theorem Only.to_below {w w' : World} {S : Nat → Prop} {B : Nat} (h : Only w w' S) (hB : B ≤ w.heap.size) (hS : ∀ k, S k → B ≤ k) : Below B w w' :=
  ⟨h.os, h.tape, h.output, h.size, fun k hk => h.block k (by omega) (fun hs => by have := hS k hs; omega)⟩
theorem Whole.only {w w' : World} {b : Nat} {t : TypeId} {C : Array Value} {S : Nat → Prop} (h : Whole w b t C) (ho : Only w w' S) (hne : ¬ S b) : Whole w' b t C := by
  unfold Whole
  rw [ho.block b h.lt hne]; exact h

def engCells (clk : Int) (b wh tm wk : Nat) : Array Value := #[ptr b, .int .i64 0, .int .i64 0, .int .i64 0, .int .i64 1, .int .u64 1, .int .u64 1, .int .u64 clk, .slice none 0 0, .slice none 0 0, ptr wh, .map (some tm), .map (some wk), .int .i64 0, .int .i64 0, .slice none 0 0]
/-- an engine without models, without timers -/
structure Eng (w : World) (x : Nat) (clk : Int) (b wh tm wk far all : Nat) (rs : List Nat) : Prop where
  row : Whole w x 113 (engCells clk b wh tm wk)
  wheel : EmptyWheel w wh clk far all rs
  apart : x ≠ wh ∧ (∀ r ∈ rs, x ≠ r) ∧ x ≠ far
theorem Eng.later {w w' : World} {x b wh tm wk far all : Nat} {clk : Int} {rs : List Nat} (h : Eng w x clk b wh tm wk far all rs) (hb : Below w.heap.size w w') : Eng w' x clk b wh tm wk far all rs := ⟨h.row.later hb, h.wheel.later hb, h.apart⟩
theorem Eng.lt {w : World} {x b wh tm wk far all : Nat} {clk : Int} {rs : List Nat} (h : Eng w x clk b wh tm wk far all rs) : x < w.heap.size := h.row.lt
theorem EmptyWheel.clock {w : World} {wh far all : Nat} {now : Int} {rs : List Nat} (h : EmptyWheel w wh now far all rs) {x : Nat} (hx : x ≠ wh ∧ (∀ r ∈ rs, x ≠ r) ∧ x ≠ far) (i : Nat) (v : Value) : EmptyWheel (w.setCell ⟨x, i, none⟩ v) wh now far all rs :=
  ⟨h.row.far (fun e => hx.1 e.symm) _, h.len, fun r hr => ⟨(h.ring r hr).1.far (fun e => hx.2.1 r hr e.symm) _, (h.ring r hr).2⟩, by rw [Deep.blk_setCell_other _ _ _ _ (fun e => hx.2.2 e.symm)]; exact h.far⟩
theorem Eng.set_new {w0 w : World} {x b wh tm wk far all : Nat} {clk0 clk : Int} {rs : List Nat} (h0 : Eng w0 x clk0 b wh tm wk far all rs) (h : Eng w x clk b wh tm wk far all rs) (p : Addr) (hp : w0.heap.size ≤ p.block) (v : Value) : Eng (w.setCell p v) x clk b wh tm wk far all rs :=
  ⟨h.row.far (by have := h0.lt; omega) _, EmptyWheel.set_new h0.wheel h.wheel p hp v, h.apart⟩
abbrev outZero : Array Value := #[.int .i64 0, .int .i64 0, .int .i64 0, .int .i64 0, .int .i64 0, .int .i64 0, .int .i64 0, .int .u64 0, .slice none 0 0]

theorem set_nine {w : World} {b : Nat} {t : TypeId} {C : Array Value} (h : Whole w b t C) (v0 v1 v2 v3 v4 v5 v6 v7 v8 : Value) :
    Whole (((((((((w.setCell ⟨b, 0, none⟩ v0).setCell ⟨b, 1, none⟩ v1).setCell ⟨b, 2, none⟩ v2).setCell ⟨b, 3, none⟩ v3).setCell ⟨b, 4, none⟩ v4).setCell ⟨b, 5, none⟩ v5).setCell ⟨b, 6, none⟩ v6).setCell ⟨b, 7, none⟩ v7).setCell ⟨b, 8, none⟩ v8) b t
      (((((((((C.setIfInBounds 0 v0).setIfInBounds 1 v1).setIfInBounds 2 v2).setIfInBounds 3 v3).setIfInBounds 4 v4).setIfInBounds 5 v5).setIfInBounds 6 v6).setIfInBounds 7 v7).setIfInBounds 8 v8) :=
  ((((((((h.set 0 v0).set 1 v1).set 2 v2).set 3 v3).set 4 v4).set 5 v5).set 6 v6).set 7 v7).set 8 v8
theorem set_nine_far {w : World} {b d : Nat} {t : TypeId} {C : Array Value} (h : Whole w b t C) (hd : b ≠ d) (v0 v1 v2 v3 v4 v5 v6 v7 v8 : Value) :
    Whole (((((((((w.setCell ⟨d, 0, none⟩ v0).setCell ⟨d, 1, none⟩ v1).setCell ⟨d, 2, none⟩ v2).setCell ⟨d, 3, none⟩ v3).setCell ⟨d, 4, none⟩ v4).setCell ⟨d, 5, none⟩ v5).setCell ⟨d, 6, none⟩ v6).setCell ⟨d, 7, none⟩ v7).setCell ⟨d, 8, none⟩ v8) b t C :=
  ((((((((h.far (p := ⟨d, 0, none⟩) hd v0).far (p := ⟨d, 1, none⟩) hd v1).far (p := ⟨d, 2, none⟩) hd v2).far (p := ⟨d, 3, none⟩) hd v3).far (p := ⟨d, 4, none⟩) hd v4).far (p := ⟨d, 5, none⟩) hd v5).far (p := ⟨d, 6, none⟩) hd v6).far (p := ⟨d, 7, none⟩) hd v7).far (p := ⟨d, 8, none⟩) hd v8
theorem only_nine {w0 w : World} {S : Nat → Prop} {b : Nat} (h : Only w0 w S) (hb : w0.heap.size ≤ b ∨ S b) (v0 v1 v2 v3 v4 v5 v6 v7 v8 : Value) :
    Only w0 (((((((((w.setCell ⟨b, 0, none⟩ v0).setCell ⟨b, 1, none⟩ v1).setCell ⟨b, 2, none⟩ v2).setCell ⟨b, 3, none⟩ v3).setCell ⟨b, 4, none⟩ v4).setCell ⟨b, 5, none⟩ v5).setCell ⟨b, 6, none⟩ v6).setCell ⟨b, 7, none⟩ v7).setCell ⟨b, 8, none⟩ v8) S :=
  ((((((((h.set b 0 v0 hb).set b 1 v1 hb).set b 2 v2 hb).set b 3 v3 hb).set b 4 v4 hb).set b 5 v5 hb).set b 6 v6 hb).set b 7 v7 hb).set b 8 v8 hb
theorem below_nine {w0 w : World} {B b : Nat} (h : Below B w0 w) (hb : B ≤ b) (v0 v1 v2 v3 v4 v5 v6 v7 v8 : Value) :
    Below B w0 (((((((((w.setCell ⟨b, 0, none⟩ v0).setCell ⟨b, 1, none⟩ v1).setCell ⟨b, 2, none⟩ v2).setCell ⟨b, 3, none⟩ v3).setCell ⟨b, 4, none⟩ v4).setCell ⟨b, 5, none⟩ v5).setCell ⟨b, 6, none⟩ v6).setCell ⟨b, 7, none⟩ v7).setCell ⟨b, 8, none⟩ v8) :=
  ((((((((h.setCell (p := ⟨b, 0, none⟩) hb v0).setCell (p := ⟨b, 1, none⟩) hb v1).setCell (p := ⟨b, 2, none⟩) hb v2).setCell (p := ⟨b, 3, none⟩) hb v3).setCell (p := ⟨b, 4, none⟩) hb v4).setCell (p := ⟨b, 5, none⟩) hb v5).setCell (p := ⟨b, 6, none⟩) hb v6).setCell (p := ⟨b, 7, none⟩) hb v7).setCell (p := ⟨b, 8, none⟩) hb v8
theorem eng_nine {w0 w : World} {x b wh tm wk far all : Nat} {clk0 clk : Int} {rs : List Nat} (h0 : Eng w0 x clk0 b wh tm wk far all rs) (h : Eng w x clk b wh tm wk far all rs) {d : Nat} (hd : w0.heap.size ≤ d) (v0 v1 v2 v3 v4 v5 v6 v7 v8 : Value) :
    Eng (((((((((w.setCell ⟨d, 0, none⟩ v0).setCell ⟨d, 1, none⟩ v1).setCell ⟨d, 2, none⟩ v2).setCell ⟨d, 3, none⟩ v3).setCell ⟨d, 4, none⟩ v4).setCell ⟨d, 5, none⟩ v5).setCell ⟨d, 6, none⟩ v6).setCell ⟨d, 7, none⟩ v7).setCell ⟨d, 8, none⟩ v8) x clk b wh tm wk far all rs :=
  h0.set_new (h0.set_new (h0.set_new (h0.set_new (h0.set_new (h0.set_new (h0.set_new (h0.set_new (h0.set_new h _ hd _) _ hd _) _ hd _) _ hd _) _ hd _) _ hd _) _ hd _) _ hd _) _ hd _
theorem in_yes (n a b : Int) (h0 : a ≤ n) (h1 : n ≤ b) (w : World) : Calls Tryz.prog 70 #[.int .i64 n, .int .i64 a, .int .i64 b] w fun e w' => e = .returned (.bool true) ∧ w' = w := by
  go_enter Tryz.func70, Tryz.ntmps70
  go_wp2
  go_ret
  exact ⟨rfl, rfl⟩
theorem in_no (n a b : Int) (h1 : ¬ n ≤ b) (h0 : a ≤ n) (w : World) : Calls Tryz.prog 70 #[.int .i64 n, .int .i64 a, .int .i64 b] w fun e w' => e = .returned (.bool false) ∧ w' = w := by
  go_enter Tryz.func70, Tryz.ntmps70
  go_wp2
  go_ret
  exact ⟨rfl, rfl⟩

set_option maxRecDepth 1000000 in
set_option maxHeartbeats 1600000 in
theorem eng_tick (w : World) (x b wh tm wk far all : Nat) (rs : List Nat) (h : Kept (Eng w x 0 b wh tm wk far all rs)) (v3 v4 : Value) (k i : Int) :
    Calls Tryz.prog 76 #[ptr x, .agg #[.int .i64 k, .int .i64 i, .int .u64 5, v3, v4]] w fun e w' => e = .returned (.agg outZero) ∧ Eng w' x 5 b wh tm wk far all rs ∧ Only w w' (fun j => j = x ∨ j = wh) := by
  have hlt := h.out.lt
  have H1 : Kept (∀ X Y, Eng ((w.alloc X).alloc Y) x 0 b wh tm wk far all rs) := ⟨fun X Y => (h.out.later ((Below.refl _ _).alloc (Nat.le_refl _) _)).later ((Below.refl _ _).alloc (Nat.le_refl _) _)⟩
  have c7 : ∀ X Y, ((w.alloc X).alloc Y).cell? ⟨x, 7, none⟩ = some (.int .u64 0) := fun X Y => (H1.out X Y).row.cell 7
  have c10 : ∀ X Y, ((w.alloc X).alloc Y).cell? ⟨x, 10, none⟩ = some (.pointer (some ⟨wh, 0, none⟩)) := fun X Y => (H1.out X Y).row.cell 10
  have T := Kept.mk (fun W hW => wheel_pop5 W wh far all rs hW)
  unfold ptr at T ⊢
  go_enter Tryz.func76, Tryz.ntmps76
  go_upto_region 1 with fail
  have HW : Kept (Whole ((w.alloc (.cells #[.int .i64 k, .int .i64 i, .int .u64 5, v3, v4] 40)).alloc (.cells outZero 28)) (w.heap.size + 1) 28 outZero) := ⟨by
    have := Whole.new (w.alloc (.cells #[.int .i64 k, .int .i64 i, .int .u64 5, v3, v4] 40)) 28 outZero
    rw [show (w.alloc (.cells #[.int .i64 k, .int .i64 i, .int .u64 5, v3, v4] 40)).heap.size = w.heap.size + 1 by simp] at this
    exact this⟩
  have HB : Kept (Only w ((w.alloc (.cells #[.int .i64 k, .int .i64 i, .int .u64 5, v3, v4] 40)).alloc (.cells outZero 28)) (fun j => j = x ∨ j = wh)) := ⟨((Only.refl _ _).alloc _).alloc _⟩
  have HE := Kept.mk (H1.out (.cells #[.int .i64 k, .int .i64 i, .int .u64 5, v3, v4] 40) (.cells outZero 28))
  go_cut [5, 6] (fun v1 v2 wx => v1 = .int .u64 5 ∧ v2 = .bool true ∧ Kept (Eng wx x 0 b wh tm wk far all rs) ∧ Kept (Whole wx (w.heap.size + 1) 28 outZero) ∧ Kept (Only w wx (fun j => j = x ∨ j = wh)))
  case first =>
    go_quiet ((go_at_call 106; exact Calls.quiet_of_same (sum_small 0 5 (by omega) _)))
    go_wp2_with fail
    go_meet
    exact ⟨rfl, rfl, ⟨HE.out.later ⟨rfl, rfl, rfl, Nat.le_refl _, fun _ _ => rfl⟩⟩, ⟨HW.out.later ⟨rfl, rfl, rfl, Nat.le_refl _, fun _ _ => rfl⟩⟩, ⟨HB.out.trans ⟨rfl, rfl, rfl, Nat.le_refl _, fun _ _ _ => rfl⟩⟩⟩
  case rest =>
    obtain ⟨rfl, rfl, HE1, HW1, HB1⟩ := hcut
    clear HW HB c7 c10 HE
    have c10 : wc.cell? ⟨x, 10, none⟩ = some (.pointer (some ⟨wh, 0, none⟩)) := HE1.out.row.cell 10
    have hs1 := HW1.out.lt
    go_wp2_with fail
    refine (T.out _ ⟨HE1.out.wheel⟩).mono ?_
    rintro e w2 ⟨rfl, he2, hg2⟩
    have hxs := HE1.out.lt
    have hne : ¬ (w.heap.size + 1 = x ∨ w.heap.size + 1 = wh) := by
      have := h.out.wheel.lt
      omega
    have row2 := HE1.out.row.grown hg2 (by have := HE1.out.apart.1; simpa using this)
    have out2 := HW1.out.grown hg2 (by simp; omega)
    have HE2 : Kept (∀ X, Whole (w2.alloc X) x 113 (engCells 0 b wh tm wk)) := ⟨fun X => row2.alloc X⟩
    have HO2 : Kept (∀ X, Whole (w2.alloc X) (w.heap.size + 1) 28 outZero) := ⟨fun X => out2.alloc X⟩
    have HV2 : Kept (EmptyWheel w2 wh 5 far all rs) := ⟨he2⟩
    have HY2 : Kept (Only w w2 (fun j => j = x ∨ j = wh)) := ⟨HB1.out.trans (Only.grown hg2 (.inr rfl))⟩
    clear c10 he2 hg2 row2 out2
    go_wp2_with fail
    refine wp_loop_rounds 1 ?_
    rw [rounds_succ]
    go_upto_region 11 with fail
    have c7 : ∀ X, (w2.alloc X).cell? ⟨x, 7, none⟩ = some (.int .u64 0) := fun X => (HE2.out X).cell 7
    have f7 : ∀ X, (w2.alloc X).frozen? ⟨x, 7, none⟩ = false := fun X => (HE2.out X).free 7
    go_cut [] (fun wx => Kept (Eng wx x 5 b wh tm wk far all rs) ∧ Kept (Whole wx (w.heap.size + 1) 28 outZero) ∧ Kept (Only w wx (fun j => j = x ∨ j = wh)))
    case first =>
      go_wp2_with fail
      go_meet
      have ea := HE1.out.apart
      exact ⟨⟨⟨by have := (HE2.out (.cells #[.int .i64 0, .int .u64 0] 202)).set 7 (.int .u64 5); exact this, (HV2.out.later ((Below.refl _ _).alloc (Nat.le_refl _) _)).clock ea _ _, ea⟩⟩, ⟨(HO2.out _).far (fun e => hne (.inl e)) _⟩, ⟨(HY2.out.alloc _).set x 7 _ (.inr (.inl rfl))⟩⟩
    case rest =>
      obtain ⟨HE3, HW3, HB3⟩ := hcut
      clear c7 f7
      have q0 := HW3.out.cell 0
      have q1 := HW3.out.cell 1
      have q2 := HW3.out.cell 2
      have q3 := HW3.out.cell 3
      have q4 := HW3.out.cell 4
      have q5 := HW3.out.cell 5
      have q6 := HW3.out.cell 6
      have q7 := HW3.out.cell 7
      have q8 := HW3.out.cell 8
      have p0 := HW3.out.free 0
      have p1 := HW3.out.free 1
      have p2 := HW3.out.free 2
      have p3 := HW3.out.free 3
      have p4 := HW3.out.free 4
      have p5 := HW3.out.free 5
      have p6 := HW3.out.free 6
      have p7 := HW3.out.free 7
      have p8 := HW3.out.free 8
      go_upto_region 12 with fail
      go_cut [] (fun wx => Kept (Eng wx x 5 b wh tm wk far all rs) ∧ Kept (Whole wx (w.heap.size + 1) 28 outZero) ∧ Kept (Only w wx (fun j => j = x ∨ j = wh)))
      case first =>
        go_wp2_with fail
        go_meet
        exact ⟨⟨eng_nine h.out HE3.out (by omega) _ _ _ _ _ _ _ _ _⟩, ⟨set_nine HW3.out _ _ _ _ _ _ _ _ _⟩, ⟨only_nine HB3.out (.inl (by omega)) _ _ _ _ _ _ _ _ _⟩⟩
      case rest =>
        obtain ⟨HE4, HW4, HB4⟩ := hcut
        clear q0 q1 q2 q3 q4 q5 q6 q7 q8 p0 p1 p2 p3 p4 p5 p6 p7 p8
        have q0 := HW4.out.cell 0
        have q1 := HW4.out.cell 1
        have q2 := HW4.out.cell 2
        have q3 := HW4.out.cell 3
        have q4 := HW4.out.cell 4
        have q5 := HW4.out.cell 5
        have q6 := HW4.out.cell 6
        have q7 := HW4.out.cell 7
        have q8 := HW4.out.cell 8
        go_wp2_with fail
        refine bodyPost_ret (v := .agg outZero) (by simp [results, Tryz.results76, go_sem, q0, q1, q2, q3, q4, q5, q6, q7, q8]) rfl ⟨rfl, HE4.out, HB4.out⟩
set_option maxRecDepth 1000000 in
set_option maxHeartbeats 1600000 in
theorem eng_look (w : World) (x b wh tm wk far all : Nat) (clk : Int) (rs : List Nat) (h : Kept (Eng w x clk b wh tm wk far all rs)) (v3 v4 : Value) (k n : Int) :
    Calls Tryz.prog 80 #[ptr x, .agg #[.int .i64 k, .int .i64 1, .int .u64 n, v3, v4]] w fun e w' => e = .returned (.agg (outZero.setIfInBounds 0 (.int .i64 7))) ∧ Below w.heap.size w w' := by
  have hlt := h.out.lt
  have H1 : Kept (∀ X Y, Eng ((w.alloc X).alloc Y) x clk b wh tm wk far all rs) := ⟨fun X Y => (h.out.later ((Below.refl _ _).alloc (Nat.le_refl _) _)).later ((Below.refl _ _).alloc (Nat.le_refl _) _)⟩
  have c9 : ∀ X Y, ((w.alloc X).alloc Y).cell? ⟨x, 9, none⟩ = some (.slice none 0 0) := fun X Y => (H1.out X Y).row.cell 9
  unfold ptr
  go_enter Tryz.func80, Tryz.ntmps80
  go_upto_region 1 with fail
  have HW : Kept (Whole ((w.alloc (.cells #[.int .i64 k, .int .i64 1, .int .u64 n, v3, v4] 40)).alloc (.cells outZero 28)) (w.heap.size + 1) 28 outZero) := ⟨by
    have := Whole.new (w.alloc (.cells #[.int .i64 k, .int .i64 1, .int .u64 n, v3, v4] 40)) 28 outZero
    rw [show (w.alloc (.cells #[.int .i64 k, .int .i64 1, .int .u64 n, v3, v4] 40)).heap.size = w.heap.size + 1 by simp] at this
    exact this⟩
  have HB : Kept (Below w.heap.size w ((w.alloc (.cells #[.int .i64 k, .int .i64 1, .int .u64 n, v3, v4] 40)).alloc (.cells outZero 28))) := ⟨((Below.refl _ _).alloc (Nat.le_refl _) _).alloc (by simp) _⟩
  go_cut [13] (fun v wx => v = .bool true ∧ Kept (Whole wx (w.heap.size + 1) 28 outZero) ∧ Kept (Below w.heap.size w wx))
  case first =>
    go_quiet ((go_at_call 70; exact Calls.quiet_of_same (in_no 1 1 0 (by omega) (by omega) _)))
    go_wp2_with fail
    go_meet
    exact ⟨rfl, ⟨HW.out.later ⟨rfl, rfl, rfl, Nat.le_refl _, fun _ _ => rfl⟩⟩, ⟨HB.out.trans ⟨rfl, rfl, rfl, Nat.le_refl _, fun _ _ => rfl⟩⟩⟩
  case rest =>
    obtain ⟨rfl, HW1, HB1⟩ := hcut
    clear HW HB c9
    have q0 := HW1.out.cell 0
    have q1 := HW1.out.cell 1
    have q2 := HW1.out.cell 2
    have q3 := HW1.out.cell 3
    have q4 := HW1.out.cell 4
    have q5 := HW1.out.cell 5
    have q6 := HW1.out.cell 6
    have q7 := HW1.out.cell 7
    have q8 := HW1.out.cell 8
    have p0 := HW1.out.free 0
    have p1 := HW1.out.free 1
    have p2 := HW1.out.free 2
    have p3 := HW1.out.free 3
    have p4 := HW1.out.free 4
    have p5 := HW1.out.free 5
    have p6 := HW1.out.free 6
    have p7 := HW1.out.free 7
    have p8 := HW1.out.free 8
    go_upto_region 2 with fail
    go_cut [] (fun wx => Kept (Whole wx (w.heap.size + 1) 28 (outZero.setIfInBounds 0 (.int .i64 7))) ∧ Kept (Below w.heap.size w wx))
    case first =>
      go_wp2_with fail
      go_meet
      exact ⟨⟨set_nine HW1.out _ _ _ _ _ _ _ _ _⟩, ⟨below_nine HB1.out (by omega) _ _ _ _ _ _ _ _ _⟩⟩
    case rest =>
      obtain ⟨HW2, HB2⟩ := hcut
      clear q0 q1 q2 q3 q4 q5 q6 q7 q8 p0 p1 p2 p3 p4 p5 p6 p7 p8
      have q0 := HW2.out.cell 0
      have q1 := HW2.out.cell 1
      have q2 := HW2.out.cell 2
      have q3 := HW2.out.cell 3
      have q4 := HW2.out.cell 4
      have q5 := HW2.out.cell 5
      have q6 := HW2.out.cell 6
      have q7 := HW2.out.cell 7
      have q8 := HW2.out.cell 8
      go_wp2_with fail
      refine bodyPost_ret (v := .agg (outZero.setIfInBounds 0 (.int .i64 7))) (by simp [results, Tryz.results80, go_sem, q0, q1, q2, q3, q4, q5, q6, q7, q8]) rfl ⟨rfl, HB2.out⟩
end Go.Proofs.YtdlieanhdbbhiaaGreatDoor
