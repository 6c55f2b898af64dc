/- Walks: an engine without models: time goes on on an empty wheel. -/
import Derived.Test.YtdlieanhdbbhiaaGreatDoorEngC
set_option linter.unusedVariables false
set_option linter.unusedSimpArgs false
namespace Go.Proofs.YtdlieanhdbbhiaaGreatDoor
open Go.RowKit

theorem grown_below {w w' : World} (h : Below w.heap.size w w') (row : Option Nat) : w.grownBy w' row := ⟨h.os, h.tape, h.output, h.size, fun i hi _ => h.block i hi⟩
theorem grown_set (w : World) (b i : Nat) (v : Value) : w.grownBy (w.setCell ⟨b, i, none⟩ v) (some b) :=
  ⟨rfl, rfl, rfl, by rw [Deep.nblk_setCell]; exact Nat.le_refl _, fun k _ hk => Deep.blk_setCell_other w _ v k (by simpa using hk)⟩
theorem grown_drew (w : World) (row : Option Nat) : w.grownBy w.drew row := ⟨rfl, rfl, rfl, Nat.le_refl _, fun _ _ _ => rfl⟩
theorem grown_drewN (w : World) (n : Nat) (row : Option Nat) : w.grownBy (w.drewN n) row := ⟨rfl, rfl, rfl, Nat.le_refl _, fun _ _ _ => rfl⟩
theorem Whole.grown {w w' : World} {b : Nat} {t : TypeId} {C : Array Value} {row : Option Nat} (h : Whole w b t C) (hg : w.grownBy w' row) (hne : some b ≠ row) : Whole w' b t C := by
  unfold Whole
  rw [hg.block b h.lt hne]; exact h
theorem EmptyRing.grown {w w' : World} {r : Nat} {row : Option Nat} (h : EmptyRing w r) (hg : w.grownBy w' row) (hne : some r ≠ row) : EmptyRing w' r :=
  ⟨hg.cell h.1 hne, fun i hi => hg.cell (h.2 i hi) hne⟩
theorem EmptyWheel.set {w : World} {wh far all : Nat} {now to : Int} {rs : List Nat} (h : EmptyWheel w wh now far all rs) : EmptyWheel (w.setCell ⟨wh, 0, none⟩ (.int .u64 to)) wh to far all rs where
  row := by
    have := h.row.set 0 (.int .u64 to)
    have e : (wheelCells now far all rs).setIfInBounds 0 (.int .u64 to) = wheelCells to far all rs := by simp [wheelCells]
    rw [e] at this
    exact this
  len := h.len
  ring := fun r hr => ⟨(h.ring r hr).1.far (fun e => (h.ring r hr).2 e.symm) _, (h.ring r hr).2⟩
  far := by
    have hne : far ≠ wh := by
      intro e
      have h1 := h.far
      have h2 := h.row
      unfold Whole at h2
      rw [e, h2] at h1
      cases h1
    rw [Deep.blk_setCell_other _ _ _ _ hne]; exact h.far

theorem six {rs : List Nat} (h : rs.length = 6) : ∃ r0 r1 r2 r3 r4 r5, rs = [r0, r1, r2, r3, r4, r5] := by
  match rs, h with
  | [a, b, c, d, e, f], _ => exact ⟨a, b, c, d, e, f, rfl⟩

set_option maxRecDepth 100000 in
set_option maxHeartbeats 1600000 in
theorem wheel_turn5 (w : World) (wh far all : Nat) (rs : List Nat) (h : Kept (EmptyWheel w wh 0 far all rs)) : Calls Tryz.prog 141 #[ptr wh, .int .u64 5] w fun e w' => e = .returned (.tuple #[]) ∧ EmptyWheel w' wh 5 far all rs ∧ w.grownBy w' (some wh) := by
  obtain ⟨r0, r1, r2, r3, r4, r5, hrs⟩ := six h.out.len
  subst hrs
  have c0 : w.cell? ⟨wh, 0, none⟩ = some (.int .u64 0) := h.out.row.cell 0
  have f0 : w.frozen? ⟨wh, 0, none⟩ = false := h.out.row.free 0
  have H1 : Kept (EmptyWheel (w.setCell ⟨wh, 0, none⟩ (.int .u64 5)) wh 5 far all [r0, r1, r2, r3, r4, r5]) := ⟨h.out.set⟩
  have c1 : (w.setCell ⟨wh, 0, none⟩ (.int .u64 5)).cell? ⟨wh, 1, none⟩ = some (.pointer (some ⟨r0, 0, none⟩)) := H1.out.row.cell 1
  have i0 : ∀ W, (Instr.index 321 (.agg #[.int .i64 5, .int .i64 0, .int .i64 0, .int .i64 0, .int .i64 0, .int .i64 0, .int .i64 0, .int .i64 0, .int .i64 0, .int .i64 0, .int .i64 0]) (.int .i64 0)).run Tryz.prog W = .ok (.int .i64 5) W := fun _ => by kernel_rfl
  have C1 := Kept.mk c1
  unfold ptr
  go_enter Tryz.func141, Tryz.ntmps141
  go_wp2_with fail
  refine (top_5 _).mono ?_
  rintro e w1 ⟨rfl, rfl⟩
  go_wp2_with fail
  go_upto_region 10 with fail
  go_region_held3 (fun w' => w'.cell? ⟨wh, 1, none⟩ = some (.pointer (some ⟨r0, 0, none⟩)) ∧ Below (w1.setCell ⟨wh, 0, none⟩ (.int .u64 5)).heap.size (w1.setCell ⟨wh, 0, none⟩ (.int .u64 5)) w')
    (first
      | exact ⟨C1.out, below_drew0 _ _⟩
      | exact ⟨cell_later' (by assumption) C1.out, by assumption⟩
      | exact ⟨cell_later' (below_next (below_drew0 _ _) (Nat.le_refl _) (by assumption)) C1.out, below_next (below_drew0 _ _) (Nat.le_refl _) (by assumption)⟩)
    (first
      | (go_at_call 182; refine (digits_5 _).mono ?_; rintro e w2 ⟨rfl, hb2⟩)
      | (go_at_call 181; refine (ring_take _ r0 5 ⟨(H1.out.later (below_next (below_drew0 _ _) (Nat.le_refl _) hb2)).ring r0 (by simp) |>.1⟩ (by omega)).mono ?_; rintro e w3 ⟨rfl, rfl⟩))
  have hbW : Below (w1.setCell ⟨wh, 0, none⟩ (.int .u64 5)).heap.size (w1.setCell ⟨wh, 0, none⟩ (.int .u64 5)) w3 := below_next (below_drew0 _ _) (Nat.le_refl _) hb2
  have HbW := Kept.mk hbW
  clear hbW hb2
  go_wp2_with fail
  refine wp_loop_rounds 1 ?_
  rw [rounds_succ]
  go_wp2_with fail
  go_end0
  exact ⟨rfl, H1.out.later HbW.out, (grown_set _ _ _ _).trans (grown_below HbW.out _)⟩

theorem EmptyWheel.bound {w : World} {wh far all : Nat} {now : Int} {rs : List Nat} (h : EmptyWheel w wh now far all rs) : wh < w.heap.size ∧ (∀ r ∈ rs, r < w.heap.size) ∧ far < w.heap.size :=
  ⟨h.row.lt, fun r hr => World.block_lt_of_cell? w ⟨r, 65, none⟩ (h.ring r hr).1.1, (Array.getElem?_eq_some_iff.1 h.far).1⟩
theorem EmptyWheel.set_new {w0 w : World} {wh far all : Nat} {now0 now : Int} {rs : List Nat} (h0 : EmptyWheel w0 wh now0 far all rs) (h : EmptyWheel w wh now far all rs) (p : Addr) (hp : w0.heap.size ≤ p.block) (v : Value) : EmptyWheel (w.setCell p v) wh now far all rs := by
  obtain ⟨b1, b2, b3⟩ := h0.bound
  exact ⟨h.row.far (by omega) _, h.len, fun r hr => ⟨(h.ring r hr).1.far (by have := b2 r hr; omega) _, (h.ring r hr).2⟩, by rw [Deep.blk_setCell_other _ _ _ _ (by omega)]; exact h.far⟩
theorem grown_new {w0 w w' : World} {b i : Nat} {v : Value} {row : Option Nat} (h : w0.grownBy w row) (hb : w0.heap.size ≤ b) (e : w' = w.setCell ⟨b, i, none⟩ v) : w0.grownBy w' row := by
  subst e
  exact h.andThen (grown_set w b i v) (fun j hj => by cases hj; exact .inl hb)

set_option maxRecDepth 100000 in
set_option maxHeartbeats 1600000 in
theorem wheel_pop5 (w : World) (wh far all : Nat) (rs : List Nat) (h : Kept (EmptyWheel w wh 0 far all rs)) : Calls Tryz.prog 107 #[ptr wh, .int .u64 5] w fun e w' => e = .returned (.tuple #[.agg #[.int .i64 0, .int .u64 0], .bool false]) ∧ EmptyWheel w' wh 5 far all rs ∧ w.grownBy w' (some wh) := by
  have hlt := h.out.lt
  have H1 : Kept (∀ X, EmptyWheel (w.alloc X) wh 0 far all rs) := ⟨fun X => h.out.later ((Below.refl _ _).alloc (Nat.le_refl _) _)⟩
  have T := Kept.mk (And.intro (fun W hW => wheel_turn5 W wh far all rs hW) (fun W hW => wheel_first W wh far all 0 rs hW))
  unfold ptr at T ⊢
  go_enter Tryz.func107, Tryz.ntmps107
  go_wp2_with fail
  refine (T.out.2 _ ⟨H1.out _⟩).mono ?_
  rintro e w1 ⟨rfl, hb1⟩
  have H2 := Kept.mk ((H1.out (.cells #[.int .i64 0, .int .u64 0] 202)).later hb1)
  have H3 : Kept (∀ X, EmptyWheel (w1.alloc X) wh 0 far all rs) := ⟨fun X => H2.out.later ((Below.refl _ _).alloc (Nat.le_refl _) _)⟩
  have c0 : ∀ X, (w1.alloc X).cell? ⟨wh, 0, none⟩ = some (.int .u64 0) := fun X => (H3.out X).row.cell 0
  have D : Kept (Whole w1 w.heap.size 202 #[.int .i64 0, .int .u64 0]) := ⟨(Whole.new _ _ _).later hb1⟩
  have hs1 : w.heap.size < w1.heap.size := by have := hb1.size; simp at this; omega
  have G1 := Kept.mk (((World.grownBy_alloc w _ (some wh)).trans (grown_below hb1 (some wh))))
  clear hb1
  go_wp2_with fail
  refine (T.out.1 _ ⟨H3.out _⟩).mono ?_
  rintro e w2 ⟨rfl, he2, hg2⟩
  have D2 := (D.out.alloc (.cells #[.int .i64 0, .int .u64 0] 202)).grown hg2 (by simp; omega)
  have d0 := D2.cell 0
  have d1 := D2.cell 1
  have g0 := D2.free 0
  have g1 := D2.free 1
  have G2 := Kept.mk ((G1.out.trans (World.grownBy_alloc w1 _ (some wh))).trans hg2)
  have He2 := Kept.mk he2
  clear he2 hg2 D2 c0
  go_wp2_with fail
  refine bodyPost_ret (v := .tuple #[.agg #[.int .i64 0, .int .u64 0], .bool false]) (by simp [results, Tryz.results107, go_sem, d0, d1, g0, g1]) rfl ⟨rfl, ?_, ?_⟩
  · exact EmptyWheel.set_new h.out (EmptyWheel.set_new h.out He2.out _ (Nat.le_refl _) _) _ (Nat.le_refl _) _
  · exact grown_new (grown_new G2.out (Nat.le_refl _) rfl) (Nat.le_refl _) rfl
end Go.Proofs.YtdlieanhdbbhiaaGreatDoor
