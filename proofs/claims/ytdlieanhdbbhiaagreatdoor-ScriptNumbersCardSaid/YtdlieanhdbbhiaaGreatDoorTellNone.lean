/- Walk: script.Tell, of an answer that tells of nothing seen. -/
import Derived.Test.YtdlieanhdbbhiaaGreatDoorTellPure
import Derived.Deep.RegionHeld3
import Derived.Deep.AppendLies
import Derived.Deep.DeepCutAuto
import Derived.Deep.CutBlock
import Derived.Deep.Heap
set_option linter.unusedVariables false
set_option linter.unusedSimpArgs false
namespace Go.Proofs.YtdlieanhdbbhiaaGreatDoor
open Go.RowKit

abbrev outCells (o : Out) (v : Value) : Array Value := #[.int .i64 o.code, .int .i64 o.id, .int .i64 o.num, .int .i64 o.job, .int .i64 o.of, .int .i64 o.node, .int .i64 o.try_, .int .u64 o.until_, v]
theorem cells_of {w : World} {b : Nat} {C : Array Value} {t : TypeId} (h : w.heap[b]? = some (.cells C t)) (i : Nat) (hi : i < C.size) : w.cell? ⟨b, i, none⟩ = some C[i] := by
  simp [World.cell?, h, hi]
theorem newBlk' (w : World) (C : Array Value) (t : TypeId) : (w.alloc (.cells C t)).heap[w.heap.size]? = some (.cells C t) := by
  show (w.heap.push _)[w.heap.size]? = _
  simp
theorem blk_later {w w' : World} {b : Nat} {o : Obj} (h : w.heap[b]? = some o) (hb : Below w.heap.size w w') : w'.heap[b]? = some o := by
  rw [hb.block b (Array.getElem?_eq_some_iff.1 h).1]; exact h
theorem hit1 (W : World) (v : Value) (t : TypeId) (n : Nat) (hn : n = W.heap.size) : (W.alloc (.cells #[v] t)).cell? ⟨n, 0, none⟩ = some v := World.cell?_alloc_at (w := W) _ _ _ _ hn

theorem hit5 (W : World) (a b c d e : Value) (t : TypeId) (n : Nat) (hn : n = W.heap.size) : ∀ i v, #[a, b, c, d, e][i]? = some v → (W.alloc (.cells #[a, b, c, d, e] t)).drew.cell? ⟨n, i, none⟩ = some v := fun i v h => by
  rw [← h]; exact World.cell?_alloc_at (w := W) _ _ _ _ hn
theorem hit5' (W : World) (a b c d e : Value) (t : TypeId) (n : Nat) (hn : n = W.heap.size) : ∀ i v, #[a, b, c, d, e][i]? = some v → (W.alloc (.cells #[a, b, c, d, e] t)).cell? ⟨n, i, none⟩ = some v := fun i v h => by
  rw [← h]; exact World.cell?_alloc_at (w := W) _ _ _ _ hn
theorem keep6 {W0 W W' : World} {a0 a1 a2 a3 a4 a5 : Addr} {v0 v1 v2 v3 v4 v5 : Value} (h : W.cell? a0 = some v0 ∧ W.cell? a1 = some v1 ∧ W.cell? a2 = some v2 ∧ W.cell? a3 = some v3 ∧ W.cell? a4 = some v4 ∧ W.cell? a5 = some v5 ∧ Below W0.heap.size W0 W) (hb : Below W.heap.size W W') :
    W'.cell? a0 = some v0 ∧ W'.cell? a1 = some v1 ∧ W'.cell? a2 = some v2 ∧ W'.cell? a3 = some v3 ∧ W'.cell? a4 = some v4 ∧ W'.cell? a5 = some v5 ∧ Below W0.heap.size W0 W' :=
  ⟨cell_later' hb h.1, cell_later' hb h.2.1, cell_later' hb h.2.2.1, cell_later' hb h.2.2.2.1, cell_later' hb h.2.2.2.2.1, cell_later' hb h.2.2.2.2.2.1, below_next h.2.2.2.2.2.2 h.2.2.2.2.2.2.size hb⟩
theorem keep6a {W0 W : World} {a0 a1 a2 a3 a4 a5 : Addr} {v0 v1 v2 v3 v4 v5 : Value} {x : Obj} (h : W.cell? a0 = some v0 ∧ W.cell? a1 = some v1 ∧ W.cell? a2 = some v2 ∧ W.cell? a3 = some v3 ∧ W.cell? a4 = some v4 ∧ W.cell? a5 = some v5 ∧ Below W0.heap.size W0 W) :
    (W.alloc x).cell? a0 = some v0 ∧ (W.alloc x).cell? a1 = some v1 ∧ (W.alloc x).cell? a2 = some v2 ∧ (W.alloc x).cell? a3 = some v3 ∧ (W.alloc x).cell? a4 = some v4 ∧ (W.alloc x).cell? a5 = some v5 ∧ Below W0.heap.size W0 (W.alloc x) :=
  keep6 h ((Below.refl _ _).alloc (Nat.le_refl _) _)
theorem below_drew' (B : Nat) (w : World) : Below B w w.drew := ⟨rfl, rfl, rfl, Nat.le_refl _, fun _ _ => rfl⟩
theorem keep6d {W0 W : World} {a0 a1 a2 a3 a4 a5 : Addr} {v0 v1 v2 v3 v4 v5 : Value} (h : W.cell? a0 = some v0 ∧ W.cell? a1 = some v1 ∧ W.cell? a2 = some v2 ∧ W.cell? a3 = some v3 ∧ W.cell? a4 = some v4 ∧ W.cell? a5 = some v5 ∧ Below W0.heap.size W0 W) :
    W.drew.cell? a0 = some v0 ∧ W.drew.cell? a1 = some v1 ∧ W.drew.cell? a2 = some v2 ∧ W.drew.cell? a3 = some v3 ∧ W.drew.cell? a4 = some v4 ∧ W.drew.cell? a5 = some v5 ∧ Below W0.heap.size W0 W.drew :=
  keep6 h (below_drew' _ _)
theorem keep6ad {W0 W : World} {a0 a1 a2 a3 a4 a5 : Addr} {v0 v1 v2 v3 v4 v5 : Value} {x : Obj} (h : W.drew.cell? a0 = some v0 ∧ W.drew.cell? a1 = some v1 ∧ W.drew.cell? a2 = some v2 ∧ W.drew.cell? a3 = some v3 ∧ W.drew.cell? a4 = some v4 ∧ W.drew.cell? a5 = some v5 ∧ Below W0.heap.size W0 W.drew) :
    (W.alloc x).drew.cell? a0 = some v0 ∧ (W.alloc x).drew.cell? a1 = some v1 ∧ (W.alloc x).drew.cell? a2 = some v2 ∧ (W.alloc x).drew.cell? a3 = some v3 ∧ (W.alloc x).drew.cell? a4 = some v4 ∧ (W.alloc x).drew.cell? a5 = some v5 ∧ Below W0.heap.size W0 (W.alloc x).drew :=
  keep6 h ⟨rfl, rfl, rfl, by show W.heap.size ≤ (W.heap.push x).size; simp, fun k hk => Deep.blk_alloc_lt W x k hk⟩
theorem glob6 {W0 W : World} {a0 a1 a2 a3 a4 a5 : Addr} {v0 v1 v2 v3 v4 v5 : Value} (h : W.cell? a0 = some v0 ∧ W.cell? a1 = some v1 ∧ W.cell? a2 = some v2 ∧ W.cell? a3 = some v3 ∧ W.cell? a4 = some v4 ∧ W.cell? a5 = some v5 ∧ Below W0.heap.size W0 W) (hG : Glob W0) : Glob W := hG.later h.2.2.2.2.2.2

theorem keep7 {W0 W W' : World} {a0 a1 a2 a3 a4 a5 a6 : Addr} {v0 v1 v2 v3 v4 v5 v6 : Value} (h : W.cell? a0 = some v0 ∧ W.cell? a1 = some v1 ∧ W.cell? a2 = some v2 ∧ W.cell? a3 = some v3 ∧ W.cell? a4 = some v4 ∧ W.cell? a5 = some v5 ∧ W.cell? a6 = some v6 ∧ Below W0.heap.size W0 W) (hb : Below W.heap.size W W') : W'.cell? a0 = some v0 ∧ W'.cell? a1 = some v1 ∧ W'.cell? a2 = some v2 ∧ W'.cell? a3 = some v3 ∧ W'.cell? a4 = some v4 ∧ W'.cell? a5 = some v5 ∧ W'.cell? a6 = some v6 ∧ Below W0.heap.size W0 W' :=
  ⟨cell_later' hb h.1, cell_later' hb h.2.1, cell_later' hb h.2.2.1, cell_later' hb h.2.2.2.1, cell_later' hb h.2.2.2.2.1, cell_later' hb h.2.2.2.2.2.1, cell_later' hb h.2.2.2.2.2.2.1, below_next h.2.2.2.2.2.2.2 h.2.2.2.2.2.2.2.size hb⟩
theorem keep7a {W0 W : World} {a0 a1 a2 a3 a4 a5 a6 : Addr} {v0 v1 v2 v3 v4 v5 v6 : Value} {x : Obj} (h : W.cell? a0 = some v0 ∧ W.cell? a1 = some v1 ∧ W.cell? a2 = some v2 ∧ W.cell? a3 = some v3 ∧ W.cell? a4 = some v4 ∧ W.cell? a5 = some v5 ∧ W.cell? a6 = some v6 ∧ Below W0.heap.size W0 W) : (W.alloc x).cell? a0 = some v0 ∧ (W.alloc x).cell? a1 = some v1 ∧ (W.alloc x).cell? a2 = some v2 ∧ (W.alloc x).cell? a3 = some v3 ∧ (W.alloc x).cell? a4 = some v4 ∧ (W.alloc x).cell? a5 = some v5 ∧ (W.alloc x).cell? a6 = some v6 ∧ Below W0.heap.size W0 (W.alloc x) := keep7 h ((Below.refl _ _).alloc (Nat.le_refl _) _)
theorem keep7d {W0 W : World} {a0 a1 a2 a3 a4 a5 a6 : Addr} {v0 v1 v2 v3 v4 v5 v6 : Value} (h : W.cell? a0 = some v0 ∧ W.cell? a1 = some v1 ∧ W.cell? a2 = some v2 ∧ W.cell? a3 = some v3 ∧ W.cell? a4 = some v4 ∧ W.cell? a5 = some v5 ∧ W.cell? a6 = some v6 ∧ Below W0.heap.size W0 W) : W.drew.cell? a0 = some v0 ∧ W.drew.cell? a1 = some v1 ∧ W.drew.cell? a2 = some v2 ∧ W.drew.cell? a3 = some v3 ∧ W.drew.cell? a4 = some v4 ∧ W.drew.cell? a5 = some v5 ∧ W.drew.cell? a6 = some v6 ∧ Below W0.heap.size W0 W.drew := keep7 h (below_drew' _ _)
theorem keep7ad {W0 W : World} {a0 a1 a2 a3 a4 a5 a6 : Addr} {v0 v1 v2 v3 v4 v5 v6 : Value} {x : Obj} (h : W.drew.cell? a0 = some v0 ∧ W.drew.cell? a1 = some v1 ∧ W.drew.cell? a2 = some v2 ∧ W.drew.cell? a3 = some v3 ∧ W.drew.cell? a4 = some v4 ∧ W.drew.cell? a5 = some v5 ∧ W.drew.cell? a6 = some v6 ∧ Below W0.heap.size W0 W.drew) : (W.alloc x).drew.cell? a0 = some v0 ∧ (W.alloc x).drew.cell? a1 = some v1 ∧ (W.alloc x).drew.cell? a2 = some v2 ∧ (W.alloc x).drew.cell? a3 = some v3 ∧ (W.alloc x).drew.cell? a4 = some v4 ∧ (W.alloc x).drew.cell? a5 = some v5 ∧ (W.alloc x).drew.cell? a6 = some v6 ∧ Below W0.heap.size W0 (W.alloc x).drew :=
  keep7 h ⟨rfl, rfl, rfl, by show W.heap.size ≤ (W.heap.push x).size; simp, fun k hk => Deep.blk_alloc_lt W x k hk⟩
theorem glob7 {W0 W : World} {a0 a1 a2 a3 a4 a5 a6 : Addr} {v0 v1 v2 v3 v4 v5 v6 : Value} (h : W.cell? a0 = some v0 ∧ W.cell? a1 = some v1 ∧ W.cell? a2 = some v2 ∧ W.cell? a3 = some v3 ∧ W.cell? a4 = some v4 ∧ W.cell? a5 = some v5 ∧ W.cell? a6 = some v6 ∧ Below W0.heap.size W0 W) (hG : Glob W0) : Glob W := hG.later h.2.2.2.2.2.2.2
theorem below7 {W0 W : World} {a0 a1 a2 a3 a4 a5 a6 : Addr} {v0 v1 v2 v3 v4 v5 v6 : Value} (h : W.cell? a0 = some v0 ∧ W.cell? a1 = some v1 ∧ W.cell? a2 = some v2 ∧ W.cell? a3 = some v3 ∧ W.cell? a4 = some v4 ∧ W.cell? a5 = some v5 ∧ W.cell? a6 = some v6 ∧ Below W0.heap.size W0 W) : Below W0.heap.size W0 W := h.2.2.2.2.2.2.2
theorem hit1d (W : World) (v : Value) (t : TypeId) (n : Nat) (hn : n = W.heap.size) : (W.alloc (.cells #[v] t)).drew.cell? ⟨n, 0, none⟩ = some v := World.cell?_alloc_at (w := W) _ _ _ _ hn
theorem hit3 (W : World) (a b c : Value) (t : TypeId) (n : Nat) (hn : n = W.heap.size) : ∀ i v, #[a, b, c][i]? = some v → (W.alloc (.cells #[a, b, c] t)).cell? ⟨n, i, none⟩ = some v := fun i v h => by
  rw [← h]; exact World.cell?_alloc_at (w := W) _ _ _ _ hn
theorem hit3d (W : World) (a b c : Value) (t : TypeId) (n : Nat) (hn : n = W.heap.size) : ∀ i v, #[a, b, c][i]? = some v → (W.alloc (.cells #[a, b, c] t)).drew.cell? ⟨n, i, none⟩ = some v := fun i v h => by
  rw [← h]; exact World.cell?_alloc_at (w := W) _ _ _ _ hn
theorem cell_alloc2 {w : World} {a : Addr} {v : Value} {o : Obj} (h : w.cell? a = some v) : (w.alloc o).cell? a = some v := by
  rw [World.cell?_alloc_some _ _ _ (by simp [h])]; exact h
theorem cell_alloc2d {w : World} {a : Addr} {v : Value} {o : Obj} (h : w.cell? a = some v) : (w.alloc o).drew.cell? a = some v := cell_alloc2 h
theorem grown_cell {W W' : World} {row : Option Nat} {a : Addr} {v : Value} (hg : W.grownBy W' row) (h : W.cell? a = some v) (hne : some a.block ≠ row) : W'.cell? a = some v := by
  rw [World.cell?_of_block (w := W) (hg.block a.block (World.block_lt_of_cell? W a h) hne)]; exact h
theorem keep7g {W0 W W' : World} {row : Option Nat} {a0 a1 a2 a3 a4 a5 a6 : Addr} {v0 v1 v2 v3 v4 v5 v6 : Value} (h : W.cell? a0 = some v0 ∧ W.cell? a1 = some v1 ∧ W.cell? a2 = some v2 ∧ W.cell? a3 = some v3 ∧ W.cell? a4 = some v4 ∧ W.cell? a5 = some v5 ∧ W.cell? a6 = some v6 ∧ Below W0.heap.size W0 W) (hg : W.grownBy W' row) (hn : some a0.block ≠ row ∧ some a1.block ≠ row ∧ some a2.block ≠ row ∧ some a3.block ≠ row ∧ some a4.block ≠ row ∧ some a5.block ≠ row ∧ some a6.block ≠ row) (hr : ∀ k, row = some k → W0.heap.size ≤ k) : W'.cell? a0 = some v0 ∧ W'.cell? a1 = some v1 ∧ W'.cell? a2 = some v2 ∧ W'.cell? a3 = some v3 ∧ W'.cell? a4 = some v4 ∧ W'.cell? a5 = some v5 ∧ W'.cell? a6 = some v6 ∧ Below W0.heap.size W0 W' :=
  ⟨grown_cell hg h.1 hn.1, grown_cell hg h.2.1 hn.2.1, grown_cell hg h.2.2.1 hn.2.2.1, grown_cell hg h.2.2.2.1 hn.2.2.2.1, grown_cell hg h.2.2.2.2.1 hn.2.2.2.2.1, grown_cell hg h.2.2.2.2.2.1 hn.2.2.2.2.2.1, grown_cell hg h.2.2.2.2.2.2.1 hn.2.2.2.2.2.2, Below.grown h.2.2.2.2.2.2.2 hg h.2.2.2.2.2.2.2.size hr⟩
theorem below_a {wr Y : World} {o : Obj} (h : Below wr.heap.size wr Y) : Below wr.heap.size wr (Y.alloc o) := h.alloc h.size _
theorem below_d {wr Y : World} (h : Below wr.heap.size wr Y) : Below wr.heap.size wr Y.drew := h.trans (below_drew' _ _)
theorem below_c {wr Y X : World} (hb : Below Y.heap.size Y X) (h : Below wr.heap.size wr Y) : Below wr.heap.size wr X := below_next h h.size hb
def ToldAt (w : World) (g p : Nat) (t : Told) : Prop :=
  w.cell? ⟨g, p, none⟩ = some (.int .u64 t.at_) ∧ w.cell? ⟨g, p + 1, none⟩ = some (.int .u64 t.due) ∧ w.cell? ⟨g, p + 2, none⟩ = some (.int .i64 t.of) ∧ w.cell? ⟨g, p + 3, none⟩ = some (.int .i64 t.kind) ∧ w.cell? ⟨g, p + 4, none⟩ = some (.int .i64 t.in_) ∧ w.cell? ⟨g, p + 5, none⟩ = some (.int .i64 t.node) ∧ w.cell? ⟨g, p + 6, none⟩ = some (.int .i64 t.token)
theorem ToldAt.later {w w' : World} {g p : Nat} {t : Told} (h : ToldAt w g p t) (hb : Below w.heap.size w w') : ToldAt w' g p t :=
  ⟨cell_later' hb h.1, cell_later' hb h.2.1, cell_later' hb h.2.2.1, cell_later' hb h.2.2.2.1, cell_later' hb h.2.2.2.2.1, cell_later' hb h.2.2.2.2.2.1, cell_later' hb h.2.2.2.2.2.2⟩
def TellPost (o : Out) (w : World) (e : Ending) (w' : World) : Prop :=
  (∃ v, e = .returned v ∧ w'.ownsRow w.heap.size 9 1 v (o.told.length + 1) (strVs (outTexts o))) ∧ Below w.heap.size w w'

set_option maxRecDepth 1000000 in
set_option maxHeartbeats 4000000 in
theorem tell_none (w : World) (o : Out) (ho : Kept o.ok) (hn : o.told.length ≤ 100000) (hn0 : Kept (o.told.length = 0)) (a : Option Addr) (cap : Nat) (hG : Kept (Glob w)) (hT : Kept (∀ j t, o.told[j]? = some t → ∃ g p, a = some ⟨g, p, none⟩ ∧ ToldAt w g (p + j * 7) t)) :
    Calls Tryz.prog 6 #[.agg (outCells o (.slice a o.told.length cap))] w (TellPost o w) := by
  obtain ⟨i0, hi, hz0, hz1, hz2⟩ := info_parts info_str
  generalize hnn : o.told.length = n at *
  have Hn := Kept.mk hnn
  clear hnn
  go_enter Tryz.func6, Tryz.ntmps6
  have hG0 : Kept (Glob (w.alloc (.cells (outCells o (.slice a n cap)) 28))) := ⟨hG.out.later ((Below.refl _ w).alloc (Nat.le_refl _) _)⟩
  go_upto_if 11 with fail
  go_cut [3] (fun s wx => s = .string ⟨(head1 o.code).toArray⟩ ∧ Below (w.alloc (.cells (outCells o (.slice a n cap)) 28)).heap.size (w.alloc (.cells (outCells o (.slice a n cap)) 28)) wx)
  case first =>
    by_cases hz : o.code = 0
    · have hb : (o.code != 0) = false := by simp [hz]
      go_wp2_with fail
      go_meet
      exact ⟨by simp [head1, hz], Below.refl _ _⟩
    · have hb : (o.code != 0) = true := by simp [hz]
      have hadd := add_eq [101, 114, 114, 111, 114, 32] (Lib.itoa o.code) (by decide) (by have := itoa_len o.code ho.out.1; omega)
      generalize hs : [101, 114, 114, 111, 114, 32] ++ Lib.itoa o.code = s at hadd
      have Hs := Kept.mk hs
      clear hs
      go_wp2_with fail
      refine (row1 _ _ o.code ho.out.1 (hit1 _ _ _ _ (by simp)) (hG0.out.later ((Below.refl _ _).alloc (Nat.le_refl _) _))).mono ?_
      rintro e w1 ⟨rfl, hb1⟩
      go_wp2_with fail
      go_meet
      exact ⟨by rw [head1, if_neg hz, Hs.out], ((Below.refl _ _).alloc (Nat.le_refl _) _).trans (hb1.mono (by simp))⟩
  case rest =>
    obtain ⟨rfl, hb⟩ := hcut
    have hs1 : (head1 o.code).length ≤ 1000 := by
      unfold head1; split
      · decide
      · have := itoa_len o.code ho.out.1; simp; omega
    generalize he1 : head1 o.code = s1 at hs1 ⊢
    have E1 := Kept.mk he1
    clear he1
    have hblk := blk_later (newBlk' _ _ _) hb
    have hb0 := Kept.mk hb
    have hGc := Kept.mk (hG0.out.later hb)
    have Hblk := Kept.mk hblk
    have c1 : wc.cell? ⟨w.heap.size, 1, none⟩ = some (.int .i64 o.id) := cells_of hblk 1 (by simp)
    clear hb hblk
    rename World => wa
    go_upto_if 19 with fail
    go_cut [3] (fun s wx => s = .string ⟨(head2 s1 o.id).toArray⟩ ∧ Below wa.heap.size wa wx)
    case first =>
      by_cases hz : o.id = 0
      · have hb : (o.id != 0) = false := by simp [hz]
        go_wp2_with fail
        go_meet
        exact ⟨by simp [head2, hz], Below.refl _ _⟩
      · have hb : (o.id != 0) = true := by simp [hz]
        have hadd := add_eq [32] (Lib.itoa o.id) (by decide) (by have := itoa_len o.id ho.out.2.1; omega)
        have hadd2 := add_eq s1 ([32] ++ Lib.itoa o.id) (by omega) (by have := itoa_len o.id ho.out.2.1; simp; omega)
        generalize hs : [32] ++ Lib.itoa o.id = s at hadd hadd2
        generalize hs2 : s1 ++ s = s2 at hadd2
        have Hs := Kept.mk (And.intro hs hs2)
        clear hs hs2
        go_wp2_with fail
        refine (row1 _ _ o.id ho.out.2.1 (hit1 _ _ _ _ (by simp)) (hGc.out.later ((Below.refl _ _).alloc (Nat.le_refl _) _))).mono ?_
        rintro e w1 ⟨rfl, hb1⟩
        go_wp2_with fail
        go_meet
        exact ⟨by rw [head2, if_neg hz, Hs.out.1, Hs.out.2], ((Below.refl _ _).alloc (Nat.le_refl _) _).trans (hb1.mono (by simp))⟩
    case rest =>
      obtain ⟨rfl, hb⟩ := hcut
      have hs2 : (head2 s1 o.id).length ≤ 2000 := by
        unfold head2; split
        · omega
        · have := itoa_len o.id ho.out.2.1; simp; omega
      generalize he2 : head2 s1 o.id = s2 at hs2 ⊢
      have E2 := Kept.mk he2
      clear he2
      have hblk := blk_later Hblk.out hb
      have Hblk2 := Kept.mk hblk
      have hba := Kept.mk (below_next hb0.out hb0.out.size hb)
      have hGb := Kept.mk (hGc.out.later hb)
      have c2 : wc.cell? ⟨w.heap.size, 2, none⟩ = some (.int .i64 o.num) := cells_of hblk 2 (by simp)
      have c3 : wc.cell? ⟨w.heap.size, 3, none⟩ = some (.int .i64 o.job) := cells_of hblk 3 (by simp)
      have c4 : wc.cell? ⟨w.heap.size, 4, none⟩ = some (.int .i64 o.of) := cells_of hblk 4 (by simp)
      have c5 : wc.cell? ⟨w.heap.size, 5, none⟩ = some (.int .i64 o.node) := cells_of hblk 5 (by simp)
      have c6 : wc.cell? ⟨w.heap.size, 6, none⟩ = some (.int .i64 o.try_) := cells_of hblk 6 (by simp)
      have c7 : wc.cell? ⟨w.heap.size, 7, none⟩ = some (.int .u64 o.until_) := cells_of hblk 7 (by simp)
      clear hb hblk c1 Hblk hb0 hGc
      rename World => wb
      go_upto_if 31 with fail
      have hbL : Below wb.heap.size wb (wb.alloc (.cells #[.int .i64 o.num, .int .i64 o.job, .int .i64 o.of, .int .i64 o.node, .int .i64 o.try_, .int .u64 o.until_] 25)) := (Below.refl _ _).alloc (Nat.le_refl _) _
      have hGL := Kept.mk (hGb.out.later hbL)
      go_cut [3] (fun s wx => s = .string ⟨(head3 s2 o.num o.job o.of o.node o.try_ o.until_).toArray⟩ ∧ Below wb.heap.size wb wx)
      case first =>
        by_cases hz : o.num = 0
        · have hb : (o.num != 0) = false := by simp [hz]
          go_wp2_with fail
          go_meet
          exact ⟨by simp [head3, hz], by simpa [hz] using hbL⟩
        · have hb : (o.num != 0) = true := by simp [hz]
          obtain ⟨_, _, k0, k1, k2, k3, k4, k5, _⟩ := ho.out
          have hrl := row_len [o.num, o.job, o.of, o.node, o.try_] (fun x hx => by simp at hx; rcases hx with rfl | rfl | rfl | rfl | rfl <;> assumption)
          have hdl := dec_len21 o.until_ k5
          have K := Kept.mk (And.intro k0 (And.intro k1 (And.intro k2 (And.intro k3 (And.intro k4 k5)))))
          clear k0 k1 k2 k3 k4 k5
          generalize hR : rowText [o.num, o.job, o.of, o.node, o.try_] = R at hrl
          generalize hD : Lib.decDigits o.until_ = D at hdl
          have a1 := add_eq [32, 108, 101, 97, 115, 101, 32] R (by decide) (by simp at hrl; omega)
          generalize hp1 : [32, 108, 101, 97, 115, 101, 32] ++ R = p1 at a1
          have l1 : p1.length ≤ 300 := by rw [← hp1]; simp at hrl ⊢; omega
          have a2 := add_eq p1 [32] (by omega) (by decide)
          generalize hp2 : p1 ++ [32] = p2 at a2
          have l2 : p2.length ≤ 400 := by rw [← hp2]; simp; omega
          have a3 := add_eq p2 D (by omega) (by omega)
          generalize hp3 : p2 ++ D = p3 at a3
          have l3 : p3.length ≤ 500 := by rw [← hp3]; simp; omega
          have a4 := add_eq s2 p3 (by omega) (by omega)
          generalize hp4 : s2 ++ p3 = p4 at a4
          have Hp : Kept (head3 s2 o.num o.job o.of o.node o.try_ o.until_ = p4) := ⟨by rw [head3, if_neg hz, leaseText, hR, hD, hp1, hp2, hp3, hp4]⟩
          have HR := Kept.mk hR
          have HD := Kept.mk hD
          clear hp1 hp2 hp3 hp4 l1 l2 l3 hR hD hrl hdl
          go_upto_region 8 with fail
          go_region_held3 (fun w' => w'.cell? ⟨wb.heap.size, 0, none⟩ = some (.int .i64 o.num) ∧ w'.cell? ⟨wb.heap.size, 1, none⟩ = some (.int .i64 o.job) ∧ w'.cell? ⟨wb.heap.size, 2, none⟩ = some (.int .i64 o.of) ∧ w'.cell? ⟨wb.heap.size, 3, none⟩ = some (.int .i64 o.node) ∧ w'.cell? ⟨wb.heap.size, 4, none⟩ = some (.int .i64 o.try_) ∧ w'.cell? ⟨wb.heap.size, 5, none⟩ = some (.int .u64 o.until_) ∧ Below (wb.alloc (.cells #[.int .i64 o.num, .int .i64 o.job, .int .i64 o.of, .int .i64 o.node, .int .i64 o.try_, .int .u64 o.until_] 25)).heap.size (wb.alloc (.cells #[.int .i64 o.num, .int .i64 o.job, .int .i64 o.of, .int .i64 o.node, .int .i64 o.try_, .int .u64 o.until_] 25)) w')
            (first
              | (with_reducible refine keep6 (by assumption) (by assumption))
              | (with_reducible refine keep6a (by assumption))
              | (with_reducible refine keep6ad (by assumption))
              | (with_reducible refine keep6d (by assumption))
              | (refine ⟨?_, ?_, ?_, ?_, ?_, ?_, ?_⟩ <;> first | exact World.cell?_alloc_at (w := wb) _ _ _ _ rfl | exact below_drew' _ _ | exact Below.refl _ _))
            (first
              | (go_at_call 11; refine (row5 _ _ o.num o.job o.of o.node o.try_ K.out.1 K.out.2.1 K.out.2.2.1 K.out.2.2.2.1 K.out.2.2.2.2.1 (hit5 _ _ _ _ _ _ _ _ (by simp) 0 _ rfl) (hit5 _ _ _ _ _ _ _ _ (by simp) 1 _ rfl) (hit5 _ _ _ _ _ _ _ _ (by simp) 2 _ rfl) (hit5 _ _ _ _ _ _ _ _ (by simp) 3 _ rfl) (hit5 _ _ _ _ _ _ _ _ (by simp) 4 _ rfl) (glob6 (by assumption) hGL.out)).mono ?_; rintro e w1 ⟨rfl, hb1⟩; rw [HR.out])
              | (go_at_call 12; refine (formatUint_any o.until_ K.out.2.2.2.2.2 _ (glob6 (by assumption) hGL.out)).mono ?_; rintro e w2 ⟨rfl, hb2⟩; rw [HD.out]))
          go_wp2_with fail
          go_meet
          exact ⟨by rw [Hp.out], below_next (((hbL.alloc hbL.size _).trans (below_drew' _ _)).trans (hb1.mono (by simp; omega))) (by have := hb1.size; simp at this; omega) hb2⟩
      case rest =>
        obtain ⟨rfl, hb⟩ := hcut
        generalize he3 : head3 s2 o.num o.job o.of o.node o.try_ o.until_ = s3
        have E3 : Kept (outHead o = s3) := ⟨by rw [outHead, E1.out, E2.out, he3]⟩
        have hblk := blk_later Hblk2.out hb
        have c8 : wc.cell? ⟨w.heap.size, 8, none⟩ = some (.slice a n cap) := cells_of hblk 8 (by simp)
        have hbc := Kept.mk (below_next hba.out hba.out.size hb)
        have hBc : Below w.heap.size w wc := ((Below.refl _ w).alloc (Nat.le_refl _) _).trans (hbc.out.mono (by simp))
        have HBc := Kept.mk hBc
        have q0 : w.heap.size < wc.heap.size := Nat.lt_of_lt_of_le (by simp) hbc.out.size
        have hown0 : (wc.alloc (.cells #[.string ⟨s3.toArray⟩] 9)).ownsRow w.heap.size 9 1 (.slice (some ⟨wc.heap.size, 0, none⟩) 1 1) 1 #[.string ⟨s3.toArray⟩].toList := World.ownsRow_lit wc _ 1 hBc.size (by unfold maxLen; omega) rfl
        have Hown0 := Kept.mk hown0
        clear he3 hblk Hblk2 hb hba hGb c2 c3 c4 c5 c6 c7 E1 E2 hbL hGL hs1 hs2 hown0 hBc hbc
        go_wp2_with fail
        go_loopw [5, 57] (fun v i wr => ∃ (k : Nat), k ≤ n ∧ i = .int .i64 k ∧ wr.ownsRow w.heap.size 9 1 v (k + 1) (strVs (s3 :: (o.told.take k).map toldText)) ∧ Below w.heap.size w wr) (fun _ i _ => n - (intOf i).toNat)
        case atStart => exact ⟨0, by omega, rfl, by simpa [strVs] using Hown0.out, HBc.out.alloc HBc.out.size _⟩
        case round =>
          obtain ⟨k, hk, rfl, hown, hbw⟩ := hrel
          have Hown := Kept.mk hown
          have hws := hbw.size
          have hlt : ¬ k < n := by rw [hn0.out]; omega
          have hk0 : k = 0 := by have := hn0.out; omega
          have Htold : Kept (o.told = []) := ⟨List.eq_nil_of_length_eq_zero (by rw [Hn.out]; exact hn0.out)⟩
          subst hk0
          clear hown Hown0
          go_wp2_with fail
          go_ret
          refine ⟨⟨_, rfl, ?_⟩, hbw⟩
          have := Hown.out
          rw [Htold.out] at this ⊢
          simpa [strVs, outTexts, E3.out, Htold.out] using this
end Go.Proofs.YtdlieanhdbbhiaaGreatDoor
