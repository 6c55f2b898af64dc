/- Walks: an engine without models: the wheel. -/
import Derived.Test.YtdlieanhdbbhiaaGreatDoorEngB
import Derived.Deep.RegionHeld3
import Derived.Maps.RangeWalk
import Derived.Deep.Heap
set_option linter.unusedVariables false
set_option linter.unusedSimpArgs false
namespace Go.Proofs.YtdlieanhdbbhiaaGreatDoor
open Go.RowKit

/-- a block whose cells are known -/
def Whole (w : World) (b : Nat) (t : TypeId) (C : Array Value) : Prop := w.heap[b]? = some (.cells C t (0, 0))
theorem Whole.lt {w : World} {b : Nat} {t : TypeId} {C : Array Value} (h : Whole w b t C) : b < w.heap.size := (Array.getElem?_eq_some_iff.1 h).1
theorem Whole.cell {w : World} {b : Nat} {t : TypeId} {C : Array Value} (h : Whole w b t C) (i : Nat) : w.cell? ⟨b, i, none⟩ = C[i]? := by
  unfold Whole at h
  simp [World.cell?, h]
theorem Whole.free {w : World} {b : Nat} {t : TypeId} {C : Array Value} (h : Whole w b t C) (i : Nat) : w.frozen? ⟨b, i, none⟩ = false := by
  unfold Whole at h
  simp [World.frozen?, h]
theorem Whole.new (w : World) (t : TypeId) (C : Array Value) : Whole (w.alloc (.cells C t)) w.heap.size t C := by
  show (w.heap.push _)[w.heap.size]? = _
  simp
theorem Whole.later {w w' : World} {b : Nat} {t : TypeId} {C : Array Value} (h : Whole w b t C) (hb : Below w.heap.size w w') : Whole w' b t C := by
  unfold Whole
  rw [hb.block b h.lt]; exact h
theorem Whole.set {w : World} {b : Nat} {t : TypeId} {C : Array Value} (h : Whole w b t C) (i : Nat) (v : Value) : Whole (w.setCell ⟨b, i, none⟩ v) b t (C.setIfInBounds i v) := by
  unfold Whole at h ⊢
  simp [World.setCell, Array.getElem?_modify, h]
theorem Whole.far {w : World} {b : Nat} {t : TypeId} {C : Array Value} (h : Whole w b t C) {p : Addr} (hp : b ≠ p.block) (v : Value) : Whole (w.setCell p v) b t C := by
  unfold Whole
  rw [Deep.blk_setCell_other w p v b hp]; exact h
theorem Whole.alloc {w : World} {b : Nat} {t : TypeId} {C : Array Value} (h : Whole w b t C) (o : Obj) : Whole (w.alloc o) b t C := h.later ((Below.refl _ _).alloc (Nat.le_refl _) _)
theorem cell_far (w : World) {a p : Addr} (hp : a.block ≠ p.block) (v : Value) : (w.setCell p v).cell? a = w.cell? a :=
  World.cell?_of_block (w := w) (Deep.blk_setCell_other w p v a.block hp)
theorem EmptyRing.far {w : World} {r : Nat} (h : EmptyRing w r) {p : Addr} (hp : r ≠ p.block) (v : Value) : EmptyRing (w.setCell p v) r :=
  ⟨by rw [cell_far w hp]; exact h.1, fun i hi => by rw [cell_far w hp]; exact h.2 i hi⟩

abbrev ptr (r : Nat) : Value := .pointer (some ⟨r, 0, none⟩)
def wheelCells (now : Int) (far all : Nat) (rs : List Nat) : Array Value := (.int .u64 now :: (rs.map ptr ++ (List.replicate (6 - rs.length) (.pointer none) ++ [.map (some far), .map (some all)]))).toArray
theorem wheelCells_set (now : Int) (far all : Nat) (rs : List Nat) (r : Nat) (h : rs.length < 6) : (wheelCells now far all rs).setIfInBounds (1 + rs.length) (ptr r) = wheelCells now far all (rs ++ [r]) := by
  match rs, h with
  | [], _ => rfl
  | [_], _ => rfl
  | [_, _], _ => rfl
  | [_, _, _], _ => rfl
  | [_, _, _, _], _ => rfl
  | [_, _, _, _, _], _ => rfl
theorem wheelCells_next (now : Int) (far all : Nat) (rs : List Nat) (h : rs.length < 6) : (wheelCells now far all rs)[1 + rs.length]? = some (.pointer none) := by
  match rs, h with
  | [], _ => rfl
  | [_], _ => rfl
  | [_, _], _ => rfl
  | [_, _, _], _ => rfl
  | [_, _, _, _], _ => rfl
  | [_, _, _, _, _], _ => rfl
/-- a wheel on which nothing lies, that stands at a time -/
structure EmptyWheel (w : World) (wh : Nat) (now : Int) (far all : Nat) (rs : List Nat) : Prop where
  row : Whole w wh 145 (wheelCells now far all rs)
  len : rs.length = 6
  ring : ∀ r ∈ rs, EmptyRing w r ∧ wh ≠ r
  far : w.heap[far]? = some (.map #[] 0)
theorem EmptyWheel.later {w w' : World} {wh far all : Nat} {now : Int} {rs : List Nat} (h : EmptyWheel w wh now far all rs) (hb : Below w.heap.size w w') : EmptyWheel w' wh now far all rs where
  row := h.row.later hb
  len := h.len
  ring := fun r hr => ⟨(h.ring r hr).1.later hb, (h.ring r hr).2⟩
  far := by rw [hb.block far (Array.getElem?_eq_some_iff.1 h.far).1]; exact h.far
theorem EmptyWheel.lt {w : World} {wh far all : Nat} {now : Int} {rs : List Nat} (h : EmptyWheel w wh now far all rs) : wh < w.heap.size := h.row.lt

set_option maxRecDepth 100000 in
set_option maxHeartbeats 1600000 in
theorem wheel_new (w : World) : Calls Tryz.prog 49 #[.int .u64 0] w fun e w' => (∃ wh far all rs, e = .returned (ptr wh) ∧ EmptyWheel w' wh 0 far all rs ∧ w.heap.size ≤ wh) ∧ Below w.heap.size w w' := by
  have hmm := @run_makeMap Tryz.prog
  have Hrow0 : Kept (Whole (((w.alloc (Obj.map #[] 0)).alloc (Obj.map #[] 0)).alloc (Obj.cells #[Value.int IntKind.u64 0, Value.pointer none, Value.pointer none, Value.pointer none, Value.pointer none, Value.pointer none, Value.pointer none, Value.map (some w.heap.size), Value.map (some (w.heap.size + 1))] 145)) (w.heap.size + 1 + 1) 145 (wheelCells 0 w.heap.size (w.heap.size + 1) [])) := ⟨by
    have := Whole.new ((w.alloc (Obj.map #[] 0)).alloc (Obj.map #[] 0)) 145 (wheelCells 0 w.heap.size (w.heap.size + 1) [])
    rw [show ((w.alloc (Obj.map #[] 0)).alloc (Obj.map #[] 0)).heap.size = w.heap.size + 1 + 1 by simp] at this
    exact this⟩
  have Hb0 : Kept (Below w.heap.size w (((w.alloc (Obj.map #[] 0)).alloc (Obj.map #[] 0)).alloc (Obj.cells #[Value.int IntKind.u64 0, Value.pointer none, Value.pointer none, Value.pointer none, Value.pointer none, Value.pointer none, Value.pointer none, Value.map (some w.heap.size), Value.map (some (w.heap.size + 1))] 145))) := ⟨(((Below.refl _ _).alloc (Nat.le_refl _) _).alloc (by simp) _).alloc (by simp; omega) _⟩
  have Hf0 : Kept ((((w.alloc (Obj.map #[] 0)).alloc (Obj.map #[] 0)).alloc (Obj.cells #[Value.int IntKind.u64 0, Value.pointer none, Value.pointer none, Value.pointer none, Value.pointer none, Value.pointer none, Value.pointer none, Value.map (some w.heap.size), Value.map (some (w.heap.size + 1))] 145)).heap[w.heap.size]? = some (.map #[] 0)) := ⟨by
    rw [Deep.blk_alloc_lt _ _ _ (by simp; omega), Deep.blk_alloc_lt _ _ _ (by simp), Deep.blk_alloc_new]⟩
  go_enter Tryz.func49, Tryz.ntmps49
  go_wp2_with fail
  go_loopw [10] (fun i wr => ∃ (rs : List Nat), rs.length ≤ 6 ∧ i = .int .i64 rs.length ∧ Kept (Whole wr (w.heap.size + 1 + 1) 145 (wheelCells 0 w.heap.size (w.heap.size + 1) rs)) ∧ Kept (∀ r ∈ rs, EmptyRing wr r ∧ w.heap.size + 1 + 1 ≠ r) ∧ Kept (wr.heap[w.heap.size]? = some (.map #[] 0)) ∧ Kept (Below w.heap.size w wr)) (fun i _ => 6 - (intOf i).toNat)
  case atStart => exact ⟨[], by simp, rfl, Hrow0, ⟨by simp⟩, Hf0, Hb0⟩
  case round =>
    obtain ⟨rs, hlen, rfl, Hrow, Hring, Hfar, Hb⟩ := hrel
    clear Hrow0 Hb0 Hf0
    by_cases hlt : rs.length < 6
    · have hcell : Kept ((wheelCells 0 w.heap.size (w.heap.size + 1) rs)[1 + rs.length]? = some (.pointer none)) := ⟨wheelCells_next _ _ _ _ hlt⟩
      generalize hk : rs.length = k at *
      have Hk := Kept.mk hk
      clear hk
      go_upto_region 5 with fail
      go_region_held3 (fun _ => True) (exact trivial) ((go_at_call 73; (with_reducible refine Calls.mono (ring_new _) ?_); rintro e w1 ⟨r, rfl, hr, hr1, hb1⟩; have hrow1 := Kept.mk (Whole.later (by exact Hrow.out) hb1); have hc1 := (hrow1.out.cell (1 + k)).trans hcell.out; have hf1 := hrow1.out.free (1 + k)))
      have hb1' : Below wr.heap.size wr w1 := below_of_drew hb1
      have X : Kept (Whole (w1.setCell ⟨w.heap.size + 1 + 1, 1 + k, none⟩ (.pointer (some ⟨r, 0, none⟩))) (w.heap.size + 1 + 1) 145 (wheelCells 0 w.heap.size (w.heap.size + 1) (rs ++ [r]))) := ⟨by
        have := hrow1.out.set (1 + k) (ptr r)
        rw [← Hk.out, wheelCells_set _ _ _ _ _ (by rw [Hk.out]; exact hlt), Hk.out] at this
        exact this⟩
      have Y : Kept (∀ q ∈ rs ++ [r], EmptyRing (w1.setCell ⟨w.heap.size + 1 + 1, 1 + k, none⟩ (.pointer (some ⟨r, 0, none⟩))) q ∧ w.heap.size + 1 + 1 ≠ q) := ⟨fun q hq => by
        have hlt2 := Hrow.out.lt
        rcases List.mem_append.1 hq with hq | hq
        · obtain ⟨a1, a2⟩ := Hring.out q hq
          exact ⟨(a1.later hb1').far (fun e => a2 e.symm) _, a2⟩
        · simp at hq
          subst hq
          have hr' : wr.heap.size ≤ q := hr
          exact ⟨hr1.far (by show q ≠ w.heap.size + 1 + 1; omega) _, by omega⟩⟩
      have Z : Kept ((w1.setCell ⟨w.heap.size + 1 + 1, 1 + k, none⟩ (.pointer (some ⟨r, 0, none⟩))).heap[w.heap.size]? = some (.map #[] 0)) := ⟨by
        rw [Deep.blk_setCell_other _ _ _ _ (by show w.heap.size ≠ w.heap.size + 1 + 1; omega), hb1'.block _ (Array.getElem?_eq_some_iff.1 Hfar.out).1]; exact Hfar.out⟩
      have V : Kept (Below w.heap.size w (w1.setCell ⟨w.heap.size + 1 + 1, 1 + k, none⟩ (.pointer (some ⟨r, 0, none⟩)))) := ⟨(below_next Hb.out Hb.out.size hb1').setCell (p := ⟨w.heap.size + 1 + 1, 1 + k, none⟩) (by show w.heap.size ≤ w.heap.size + 1 + 1; omega) _⟩
      clear hrow1 hr hr1 hb1 hb1'
      go_wp2_with fail
      go_roundw
      case rel => exact ⟨rs ++ [r], by rw [List.length_append, Hk.out]; simp; omega, by rw [List.length_append, Hk.out]; rfl, X, Y, Z, V⟩
      case measure => simp [intOf]; omega
    · have h6 : rs.length = 6 := by omega
      have H6 := Kept.mk h6
      rw [h6]
      clear h6 hlt hlen
      go_wp2_with fail
      go_ret
      exact ⟨⟨w.heap.size + 1 + 1, w.heap.size, w.heap.size + 1, rs, rfl, ⟨Hrow.out, H6.out, Hring.out, Hfar.out⟩, by omega⟩, Hb.out⟩

theorem ownsMap_empty {H : Type} {P : Program} {k : TypeId} {R : Value → Option (DataW H × List MemPlace)} {w : World} {b : Nat} (hb : w.heap[b]? = some (.map #[] 0)) : w.ownsMap P k R b 0 (.map []) := by
  obtain ⟨es, clock, h1, r⟩ := World.ownsMap_made w P k R
  rw [Deep.blk_alloc_new] at h1
  cases h1
  exact ⟨#[], 0, hb, r⟩
theorem lawI : Maps.Keyed Tryz.prog 3 := Maps.int_keyed Tryz.underlying3

set_option maxRecDepth 100000 in
set_option maxHeartbeats 1600000 in
theorem wheel_first (w : World) (wh far all : Nat) (now : Int) (rs : List Nat) (h : Kept (EmptyWheel w wh now far all rs)) : Calls Tryz.prog 139 #[ptr wh] w fun e w' => e = .returned (.tuple #[.agg #[.int .i64 0, .int .u64 0], .bool false]) ∧ Below w.heap.size w w' := by
  obtain ⟨r0, r1, r2, r3, r4, r5, hrs⟩ : ∃ r0 r1 r2 r3 r4 r5, rs = [r0, r1, r2, r3, r4, r5] := by
    have := h.out.len
    match rs, this with
    | [a, b, c, d, e, f], _ => exact ⟨a, b, c, d, e, f, rfl⟩
  have hrow := h.out.row
  subst hrs
  have Hr : Kept (EmptyRing w r0 ∧ EmptyRing w r1 ∧ EmptyRing w r2 ∧ EmptyRing w r3 ∧ EmptyRing w r4 ∧ EmptyRing w r5) := ⟨(h.out.ring r0 (by simp)).1, (h.out.ring r1 (by simp)).1, (h.out.ring r2 (by simp)).1, (h.out.ring r3 (by simp)).1, (h.out.ring r4 (by simp)).1, (h.out.ring r5 (by simp)).1⟩
  have keep : ∀ X, Below w.heap.size w (w.alloc X) := fun X => (Below.refl _ _).alloc (Nat.le_refl _) X
  have c1 : ∀ X, (w.alloc X).cell? ⟨wh, 1, none⟩ = some (.pointer (some ⟨r0, 0, none⟩)) := fun X => cell_later' (keep X) (hrow.cell 1)
  have c2 : ∀ X, (w.alloc X).cell? ⟨wh, 2, none⟩ = some (.pointer (some ⟨r1, 0, none⟩)) := fun X => cell_later' (keep X) (hrow.cell 2)
  have c3 : ∀ X, (w.alloc X).cell? ⟨wh, 3, none⟩ = some (.pointer (some ⟨r2, 0, none⟩)) := fun X => cell_later' (keep X) (hrow.cell 3)
  have c4 : ∀ X, (w.alloc X).cell? ⟨wh, 4, none⟩ = some (.pointer (some ⟨r3, 0, none⟩)) := fun X => cell_later' (keep X) (hrow.cell 4)
  have c5 : ∀ X, (w.alloc X).cell? ⟨wh, 5, none⟩ = some (.pointer (some ⟨r4, 0, none⟩)) := fun X => cell_later' (keep X) (hrow.cell 5)
  have c6 : ∀ X, (w.alloc X).cell? ⟨wh, 6, none⟩ = some (.pointer (some ⟨r5, 0, none⟩)) := fun X => cell_later' (keep X) (hrow.cell 6)
  have c7 : ∀ X Y, ((w.alloc X).alloc Y).cell? ⟨wh, 7, none⟩ = some (.map (some far)) := fun X Y => cell_later' ((Below.refl _ _).alloc (Nat.le_refl _) Y) (cell_later' (keep X) (hrow.cell 7))
  have Hfar : Kept (∀ X Y, ((w.alloc X).alloc Y).heap[far]? = some (.map #[] 0)) := ⟨fun X Y => by
    have h1 := h.out.far
    have h2 := (Array.getElem?_eq_some_iff.1 h1).1
    rw [Deep.blk_alloc_lt _ _ _ (by simp; omega), Deep.blk_alloc_lt _ _ _ h2]; exact h1⟩
  have Hr1 : Kept (∀ X, EmptyRing (w.alloc X) r0 ∧ EmptyRing (w.alloc X) r1 ∧ EmptyRing (w.alloc X) r2 ∧ EmptyRing (w.alloc X) r3 ∧ EmptyRing (w.alloc X) r4 ∧ EmptyRing (w.alloc X) r5) := ⟨fun X => ⟨Hr.out.1.later (keep X), Hr.out.2.1.later (keep X), Hr.out.2.2.1.later (keep X), Hr.out.2.2.2.1.later (keep X), Hr.out.2.2.2.2.1.later (keep X), Hr.out.2.2.2.2.2.later (keep X)⟩⟩
  clear keep
  clear hrow
  have i0 : ∀ W, (Instr.index 143 (.agg #[.pointer (some ⟨r0, 0, none⟩), .pointer (some ⟨r1, 0, none⟩), .pointer (some ⟨r2, 0, none⟩), .pointer (some ⟨r3, 0, none⟩), .pointer (some ⟨r4, 0, none⟩), .pointer (some ⟨r5, 0, none⟩)]) (.int .i64 0)).run Tryz.prog W = .ok (.pointer (some ⟨r0, 0, none⟩)) W := fun _ => by kernel_rfl
  have i1 : ∀ W, (Instr.index 143 (.agg #[.pointer (some ⟨r0, 0, none⟩), .pointer (some ⟨r1, 0, none⟩), .pointer (some ⟨r2, 0, none⟩), .pointer (some ⟨r3, 0, none⟩), .pointer (some ⟨r4, 0, none⟩), .pointer (some ⟨r5, 0, none⟩)]) (.int .i64 1)).run Tryz.prog W = .ok (.pointer (some ⟨r1, 0, none⟩)) W := fun _ => by kernel_rfl
  have i2 : ∀ W, (Instr.index 143 (.agg #[.pointer (some ⟨r0, 0, none⟩), .pointer (some ⟨r1, 0, none⟩), .pointer (some ⟨r2, 0, none⟩), .pointer (some ⟨r3, 0, none⟩), .pointer (some ⟨r4, 0, none⟩), .pointer (some ⟨r5, 0, none⟩)]) (.int .i64 2)).run Tryz.prog W = .ok (.pointer (some ⟨r2, 0, none⟩)) W := fun _ => by kernel_rfl
  have i3 : ∀ W, (Instr.index 143 (.agg #[.pointer (some ⟨r0, 0, none⟩), .pointer (some ⟨r1, 0, none⟩), .pointer (some ⟨r2, 0, none⟩), .pointer (some ⟨r3, 0, none⟩), .pointer (some ⟨r4, 0, none⟩), .pointer (some ⟨r5, 0, none⟩)]) (.int .i64 3)).run Tryz.prog W = .ok (.pointer (some ⟨r3, 0, none⟩)) W := fun _ => by kernel_rfl
  have i4 : ∀ W, (Instr.index 143 (.agg #[.pointer (some ⟨r0, 0, none⟩), .pointer (some ⟨r1, 0, none⟩), .pointer (some ⟨r2, 0, none⟩), .pointer (some ⟨r3, 0, none⟩), .pointer (some ⟨r4, 0, none⟩), .pointer (some ⟨r5, 0, none⟩)]) (.int .i64 4)).run Tryz.prog W = .ok (.pointer (some ⟨r4, 0, none⟩)) W := fun _ => by kernel_rfl
  have i5 : ∀ W, (Instr.index 143 (.agg #[.pointer (some ⟨r0, 0, none⟩), .pointer (some ⟨r1, 0, none⟩), .pointer (some ⟨r2, 0, none⟩), .pointer (some ⟨r3, 0, none⟩), .pointer (some ⟨r4, 0, none⟩), .pointer (some ⟨r5, 0, none⟩)]) (.int .i64 5)).run Tryz.prog W = .ok (.pointer (some ⟨r5, 0, none⟩)) W := fun _ => by kernel_rfl
  unfold ptr
  go_enter Tryz.func139, Tryz.ntmps139
  go_wp2_with fail
  refine wp_loop_rounds 7 ?_
  rw [rounds_succ]
  go_wp2_with fail
  refine (ring_first _ r0 ⟨(Hr1.out _).1⟩).mono ?_
  rintro e w1 ⟨rfl, rfl⟩
  go_wp2_with fail
  rw [rounds_succ]
  go_wp2_with fail
  refine (ring_first _ r1 ⟨(Hr1.out _).2.1⟩).mono ?_
  rintro e w1 ⟨rfl, rfl⟩
  go_wp2_with fail
  rw [rounds_succ]
  go_wp2_with fail
  refine (ring_first _ r2 ⟨(Hr1.out _).2.2.1⟩).mono ?_
  rintro e w1 ⟨rfl, rfl⟩
  go_wp2_with fail
  rw [rounds_succ]
  go_wp2_with fail
  refine (ring_first _ r3 ⟨(Hr1.out _).2.2.2.1⟩).mono ?_
  rintro e w1 ⟨rfl, rfl⟩
  go_wp2_with fail
  rw [rounds_succ]
  go_wp2_with fail
  refine (ring_first _ r4 ⟨(Hr1.out _).2.2.2.2.1⟩).mono ?_
  rintro e w1 ⟨rfl, rfl⟩
  go_wp2_with fail
  rw [rounds_succ]
  go_wp2_with fail
  refine (ring_first _ r5 ⟨(Hr1.out _).2.2.2.2.2⟩).mono ?_
  rintro e w1 ⟨rfl, rfl⟩
  go_wp2_with fail
  rw [rounds_succ]
  go_wp2_with (first
    | (at_range; refine wpList_range_own _ rfl _ 141 rfl 3 23 lawI Tryz.underlying141 (fun _ => none) far 0 (.map []) rfl (ownsMap_empty (H := Unit) (Hfar.out _ _)) ?_; intro w0 hrg0 hg0 hs0)
    | fail)
  go_frame
  have hbW := Below.grown (Below.refl _ _) hg0 (Nat.le_refl _) (fun j hj => by cases hj)
  obtain ⟨hc0, hf0⟩ := bcell hbW
  have e0 : w0.cell? ⟨w.heap.size, 0, none⟩ = some (.int .i64 0) := cell_later' hbW (cell_later' ((Below.refl _ _).alloc (Nat.le_refl _) _) (World.cell?_alloc_new w _ _ 0))
  have e1 : w0.cell? ⟨w.heap.size, 1, none⟩ = some (.int .u64 0) := cell_later' hbW (cell_later' ((Below.refl _ _).alloc (Nat.le_refl _) _) (World.cell?_alloc_new w _ _ 1))
  have hb0 : Below w.heap.size w w0 := Below.grown (((Below.refl _ _).alloc (Nat.le_refl _) _).alloc (by simp) _) hg0 (by simp; omega) (fun j hj => by cases hj)
  refine wp_loop_rounds 1 ?_
  rw [rounds_succ]
  go_wp2_with (first
    | (at_next; refine wpList_next_ranges _ rfl _ rfl 3 lawI (fun _ => none) (Value.int .i64) (fun (x : Value) => x) (fun key kl hkey => by obtain ⟨x, rfl, _⟩ := Maps.keyOf_int_inv Tryz.underlying3 hkey; exact ⟨x, rfl⟩) (fun v y hv => ⟨v, rfl⟩) far _ 0 (.map []) _ _ rfl hrg0 ?_ ?_)
    | fail)
  · intro _ _
    clear hrg0 hbW hg0
    have Hb0 := Kept.mk hb0
    clear hb0
    go_wp2_with fail
    refine bodyPost_ret (v := .tuple #[.agg #[.int .i64 0, .int .u64 0], .bool false]) (by simp [results, Tryz.results139, go_sem, e0, e1]) rfl ⟨rfl, ?_⟩
    exact (Hb0.out.setCell (Nat.le_refl _) _).setCell (Nat.le_refl _) _
end Go.Proofs.YtdlieanhdbbhiaaGreatDoor
