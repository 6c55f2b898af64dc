/- Walk: remontoirlaw30.wakes. -/
import Derived.Test.YtdlieanhdbbhiaaGreatDoorPrint
import Derived.Test.YtdlieanhdbbhiaaGreatDoorRun
import Derived.Test.YtdlieanhdbbhiaaGreatDoorNumbersPure
set_option linter.unusedVariables false
set_option linter.unusedSimpArgs false
namespace Go.Proofs.YtdlieanhdbbhiaaGreatDoor
open Go.RowKit

@[local go_sem high] theorem eql_set (a b c d : Int) (w : World) : (binOp .eql 43 (.agg #[.int .i64 a, .int .i64 b]) (.agg #[.int .i64 c, .int .i64 d])).run Tryz.prog w = .ok (.bool (setEq a b c d)) w := by
  rw [run_eql_struct, eq_set]
  rfl
def wakesOps : List Rem.Op := [⟨3, 0, 5, [], []⟩, ⟨1, 0, 0, [120, 32, 121, 10], []⟩, ⟨2, 1, 0, [], [(0, -5), (1, 7)]⟩]
theorem wakes_fits : ∀ o ∈ wakesOps, opFits o := by
  intro o ho
  simp only [wakesOps, List.mem_cons, List.not_mem_nil, or_false] at ho
  rcases ho with rfl | rfl | rfl <;> simp [opFits, IntOk]
set_option maxRecDepth 1000000 in
set_option maxHeartbeats 4000000 in
theorem wakes_any (w : World) (hG : Kept (Glob w)) :
    Calls Tryz.prog 8 #[] w fun e w' => e = .returned (.bool true) ∧ Below w.heap.size w w' := by
  go_enter Tryz.func8, Tryz.ntmps8
  go_wp2_with fail
  refine (parse_any [116, 105, 99, 107, 32, 53, 10, 100, 101, 112, 108, 111, 121, 32, 49, 10, 120, 32, 121, 10, 98, 101, 103, 105, 110, 32, 49, 32, 97, 61, 45, 53, 32, 98, 61, 55, 10] _ hG (by decide)).mono ?_
  rintro e w1 ⟨hp, hb1⟩
  rw [Rem.parse_wakes] at hp
  obtain ⟨v, rfl, hv⟩ := hp
  obtain ⟨a, cap, rfl, hin⟩ := hv.slice
  have HI := Kept.mk hin
  have HB1 := Kept.mk hb1
  clear hv hin hb1
  go_wp2_with fail
  refine (print_any w1 wakesOps a cap ⟨hG.out.later HB1.out⟩ HI ⟨wakes_fits⟩ (by decide)).mono ?_
  rintro e w2 ⟨hp, hb2⟩
  obtain ⟨_, rfl⟩ | ⟨⟨o, ho, hno⟩, _⟩ := hp
  · have hw : Rem.writeAll wakesOps = [116, 105, 99, 107, 32, 53, 10, 100, 101, 112, 108, 111, 121, 32, 49, 10, 120, 32, 121, 10, 98, 101, 103, 105, 110, 32, 49, 32, 97, 61, 45, 53, 32, 98, 61, 55, 10] := (Rem.parse_back Rem.parse_wakes).2
    rw [hw]
    clear hw
    have HB2 : Kept (Below w.heap.size w w2) := ⟨HB1.out.trans (hb2.mono HB1.out.size)⟩
    have HI2 := HI.out.later hb2
    clear hb2 HI
    go_wp2_with fail
    refine (parse_any [116, 105, 99, 107, 32, 53, 10, 108, 111, 111, 107, 32, 120, 10] _ ⟨hG.out.later HB2.out⟩ (by decide)).mono ?_
    rintro e w3 ⟨hp, hb3⟩
    rw [Rem.parse_wakes2] at hp
    subst hp
    have HB3 : Kept (Below w.heap.size w w3) := ⟨bl_c hb3 HB2.out⟩
    have HI3 := HI2.later hb3
    clear hb3 HI2
    go_wp2_with fail
    refine (run_look _ ⟨hG.out.later HB3.out⟩).mono ?_
    rintro e w4 ⟨⟨v, rfl, hv⟩, hb4⟩
    have HB4 : Kept (Below w.heap.size w w4) := ⟨bl_c hb4 HB3.out⟩
    have HI4 := HI3.later hb4
    clear HI3 hb4
    obtain ⟨g, cp, rfl, hc⟩ := own_at hv (by omega)
    have r0 : w4.cell? ⟨g, 0, none⟩ = some (.string ⟨#[111, 107]⟩) := hc 0 (by omega)
    have r1 : w4.cell? ⟨g, 1, none⟩ = some (.string ⟨#[101, 114, 114, 111, 114, 32, 55]⟩) := hc 1 (by omega)
    clear hc hv
    obtain ⟨gp, p, sa, sc, rfl, _, _, c2, _, _, _⟩ := HI4 0 _ rfl
    obtain ⟨gp1, p1, sa1, sc1, e1, _, _, _, d3, _, _⟩ := HI4 1 _ rfl
    obtain ⟨gp2, p2, sa2, sc2, e2, _, _, _, _, f4, f5⟩ := HI4 2 _ rfl
    cases e1
    cases e2
    obtain ⟨gs, ps, rfl, s0, s1⟩ := f5 0 (0, -5) rfl
    have C2 : w4.cell? ⟨gp, p + 2, none⟩ = some (.int .u64 5) := c2
    have D3 : w4.cell? ⟨gp, p + 5 + 3, none⟩ = some (.string ⟨#[120, 32, 121, 10]⟩) := d3
    have F4 : w4.cell? ⟨gp, p + 10 + 4, none⟩ = some (.slice (some ⟨gs, ps, none⟩) 2 sc2) := f4
    have S0 : w4.cell? ⟨gs, ps, none⟩ = some (.int .i64 0) := s0
    have S1 : w4.cell? ⟨gs, ps + 1, none⟩ = some (.int .i64 (-5)) := s1
    have hse : setEq 0 (-5) 0 (-5) = true := rfl
    clear c2 d3 f4 s0 s1 f5 HI4
    go_wp2_with fail
    go_ret
    exact ⟨rfl, HB4.out⟩
  · exact absurd ((Rem.parse_back Rem.parse_wakes).1 o ho) hno
end Go.Proofs.YtdlieanhdbbhiaaGreatDoor
