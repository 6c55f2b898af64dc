/- Walks: slices.Equal of sets, script.same. -/
import Derived.Test.YtdlieanhdbbhiaaGreatDoorWrite
import Derived.Laws.StructEq
set_option linter.unusedVariables false
set_option linter.unusedSimpArgs false
namespace Go.Proofs.YtdlieanhdbbhiaaGreatDoor
open Go.RowKit

theorem eq_set (a b c d : Int) (w : World) : (Op.equalIn 10000 43 (.agg #[.int .i64 a, .int .i64 b]) (.agg #[.int .i64 c, .int .i64 d])).run Tryz.prog w = .ok (a == c && b == d) w := by
  rw [show (10000 : Nat) = 9999 + 1 from rfl, run_equalIn_agg w 9999 43 _ _ (by kernel_rfl) (by kernel_rfl)]
  simp only [Program.fieldsOf, Tryz.underlying43]
  go_simp
  by_cases h1 : a = c <;> by_cases h2 : b = d <;> simp [h1, h2]
/-- Two sets are alike. -/
def setEq (a b c d : Int) : Bool := a == c && b == d
@[local go_sem high] theorem neq_set (a b c d : Int) (w : World) : (binOp .neq 43 (.agg #[.int .i64 a, .int .i64 b]) (.agg #[.int .i64 c, .int .i64 d])).run Tryz.prog w = .ok (.bool (!(setEq a b c d))) w := by
  rw [run_neq_struct, eq_set]
  rfl
set_option maxRecDepth 1000000 in
set_option maxHeartbeats 1600000 in
theorem equal_any (w : World) (a1 a2 : Option Addr) (l1 l2 : List (Int × Int)) (c1 c2 : Nat) (h1 : Kept (SetsAt w a1 l1)) (h2 : Kept (SetsAt w a2 l2)) (hl2 : l2.length ≤ 1000000) :
    Calls Tryz.prog 45 #[.slice a1 l1.length c1, .slice a2 l2.length c2] w fun e w' => e = .returned (.bool (decide (l1 = l2))) ∧ Below w.heap.size w w' := by
  by_cases hl : l1.length = l2.length
  · have t1 : ((l1.length : Int) != (l2.length : Int)) = false := by simp [hl]
    have Hl := Kept.mk hl
    have hl1 : l1.length ≤ 1000000 := by omega
    clear hl
    go_enter Tryz.func45, Tryz.ntmps45
    go_wp2_with fail
    go_loopw [13] (fun i wx => ∃ (k : Nat), k ≤ l1.length ∧ i = .int .i64 k ∧ Kept (l1.take k = l2.take k) ∧ Kept (Below w.heap.size w wx)) (fun i _ => l1.length - (intOf i).toNat)
    case atStart => exact ⟨0, by omega, rfl, ⟨rfl⟩, ⟨Below.refl _ _⟩⟩
    case round =>
      obtain ⟨k, hk, rfl, He, HB⟩ := hrel
      by_cases hlt : k < l1.length
      · obtain ⟨x, hx⟩ : ∃ x, l1[k]? = some x := ⟨l1[k], List.getElem?_eq_getElem _⟩
        obtain ⟨y, hy⟩ : ∃ y, l2[k]? = some y := ⟨l2[k]'(by rw [← Hl.out]; exact hlt), List.getElem?_eq_getElem _⟩
        obtain ⟨g1, p1, rfl, hx1, hx2⟩ := h1.out k x hx
        obtain ⟨g2, p2, rfl, hy1, hy2⟩ := h2.out k y hy
        have dx1 := cell_later' HB.out hx1
        have dx2 := cell_later' HB.out hx2
        have dy1 := cell_later' HB.out hy1
        have dy2 := cell_later' HB.out hy2
        have hlt2 : k < l2.length := by have := Hl.out; omega
        have Hx := Kept.mk hx
        have Hy := Kept.mk hy
        clear hx hy hx1 hx2 hy1 hy2
        by_cases hq : x = y
        · have tq : setEq x.1 x.2 y.1 y.2 = true := by subst hq; simp [setEq]
          have tq2 : (!setEq x.1 x.2 y.1 y.2) = false := by rw [tq]; rfl
          have Hq := Kept.mk hq
          clear tq hq
          go_upto_region 6 with fail
          go_quiet (fail)
          go_wp2_with fail
          go_roundw
          case measure => simp [intOf]; omega
          case rel =>
            refine ⟨k + 1, by omega, by go_num, ⟨?_⟩, ⟨by first | exact HB.out | exact below_drewN HB.out _⟩⟩
            rw [List.take_add_one, List.take_add_one, He.out, Hx.out, Hy.out, Hq.out]
        · have tq : setEq x.1 x.2 y.1 y.2 = false := by
            cases hb : setEq x.1 x.2 y.1 y.2
            · rfl
            · exact absurd (Prod.ext (by simp_all [setEq]) (by simp_all [setEq])) hq
          have tq2 : (!setEq x.1 x.2 y.1 y.2) = true := by rw [tq]; rfl
          clear tq
          have hd : decide (l1 = l2) = false := decide_eq_false fun h => hq (by have := Hx.out; rw [h, Hy.out] at this; exact (Option.some.inj this).symm)
          go_upto_region 6 with fail
          go_quiet (fail)
          go_wp2_with fail
          go_ret
          exact ⟨by rw [hd]; rfl, by first | exact HB.out | exact below_drewN HB.out _ | exact Below.refl _ _⟩
      · obtain rfl : k = l1.length := by omega
        have hd : decide (l1 = l2) = true := decide_eq_true (by
          have := He.out
          rwa [List.take_length, Hl.out, List.take_length] at this)
        go_wp2_with fail
        go_ret
        exact ⟨by rw [hd]; rfl, by first | exact HB.out | exact below_drewN HB.out _ | exact Below.refl _ _⟩
  · have t1 : ((l1.length : Int) != (l2.length : Int)) = true := by simpa using (fun h => hl (by omega))
    have hd : decide (l1 = l2) = false := decide_eq_false fun h => hl (by rw [h])
    go_enter Tryz.func45, Tryz.ntmps45
    go_wp2_with fail
    go_ret
    exact ⟨by rw [hd]; rfl, by first | exact HB.out | exact below_drewN HB.out _ | exact Below.refl _ _⟩

theorem SetsAt.later {w w' : World} {a : Option Addr} {l : List (Int × Int)} (h : SetsAt w a l) (hb : Below w.heap.size w w') : SetsAt w' a l := by
  intro j x hx
  obtain ⟨g, p, rfl, h1, h2⟩ := h j x hx
  exact ⟨g, p, rfl, cell_later' hb h1, cell_later' hb h2⟩
theorem two_below (w : World) (x y : Obj) : Below w.heap.size w ((w.alloc x).alloc y) := ((Below.refl _ _).alloc (Nat.le_refl _) _).alloc (by simp) _
set_option maxRecDepth 1000000 in
set_option maxHeartbeats 1600000 in
theorem same_any (w : World) (o p : Rem.Op) (a1 a2 : Option Addr) (c1 c2 : Nat) (h1 : Kept (SetsAt w a1 o.sets)) (h2 : Kept (SetsAt w a2 p.sets)) (hl2 : p.sets.length ≤ 1000000) :
    Calls Tryz.prog 25 #[.agg (opCells o (.slice a1 o.sets.length c1)), .agg (opCells p (.slice a2 p.sets.length c2))] w fun e w' => e = .returned (.bool (decide (o = p))) ∧ Below w.heap.size w w' := by
  by_cases e1 : o.kind = p.kind
  · have t1 : (o.kind == p.kind) = true := beq_iff_eq.mpr e1
    by_cases e2 : o.id = p.id
    · have t2 : (o.id == p.id) = true := beq_iff_eq.mpr e2
      by_cases e3 : o.n = p.n
      · have t3 : ((o.n : Int) == (p.n : Int)) = true := by simp [e3]
        by_cases e4 : o.text = p.text
        · have t4 : (o.text == p.text) = true := by simp [e4]
          have E : Kept (o.kind = p.kind ∧ o.id = p.id ∧ o.n = p.n ∧ o.text = p.text) := ⟨e1, e2, e3, e4⟩
          clear e1 e2 e3 e4
          go_enter Tryz.func25, Tryz.ntmps25
          go_wp2_with fail
          have hb0 : Below w.heap.size w ((w.alloc (.cells (opCells o (.slice a1 o.sets.length c1)) 40)).alloc (.cells (opCells p (.slice a2 p.sets.length c2)) 40)) := two_below _ _ _
          refine (equal_any _ a1 a2 _ _ c1 c2 ⟨h1.out.later hb0⟩ ⟨h2.out.later hb0⟩ hl2).mono ?_
          rintro e w1 ⟨rfl, hb1⟩
          go_wp2_with fail
          go_ret
          refine ⟨?_, hb0.trans (hb1.mono hb0.size)⟩
          have : decide (o = p) = decide (o.sets = p.sets) := by
            obtain ⟨e1, e2, e3, e4⟩ := E.out
            obtain ⟨k, i, n, t, s⟩ := o
            obtain ⟨k', i', n', t', s'⟩ := p
            simp only at e1 e2 e3 e4
            subst e1 e2 e3 e4
            simp
          rw [this]
          rfl
        · have hd : decide (o = p) = false := decide_eq_false fun h => e4 (by rw [h])
          have t4 : (o.text == p.text) = false := by simpa using e4
          clear e1 e2 e3 e4
          go_enter Tryz.func25, Tryz.ntmps25
          go_wp2_with fail
          go_ret
          exact ⟨by rw [hd]; rfl, two_below _ _ _⟩
      · have hd : decide (o = p) = false := decide_eq_false fun h => e3 (by rw [h])
        have t3 : ((o.n : Int) == (p.n : Int)) = false := by simp; omega
        clear e1 e2 e3
        go_enter Tryz.func25, Tryz.ntmps25
        go_wp2_with fail
        go_ret
        exact ⟨by rw [hd]; rfl, two_below _ _ _⟩
    · have hd : decide (o = p) = false := decide_eq_false fun h => e2 (by rw [h])
      have t2 : (o.id == p.id) = false := by simpa using e2
      clear e1 e2
      go_enter Tryz.func25, Tryz.ntmps25
      go_wp2_with fail
      go_ret
      exact ⟨by rw [hd]; rfl, two_below _ _ _⟩
  · have hd : decide (o = p) = false := decide_eq_false fun h => e1 (by rw [h])
    have t1 : (o.kind == p.kind) = false := by simpa using e1
    clear e1
    go_enter Tryz.func25, Tryz.ntmps25
    go_wp2_with fail
    go_ret
    exact ⟨by rw [hd]; rfl, two_below _ _ _⟩
end Go.Proofs.YtdlieanhdbbhiaaGreatDoor
