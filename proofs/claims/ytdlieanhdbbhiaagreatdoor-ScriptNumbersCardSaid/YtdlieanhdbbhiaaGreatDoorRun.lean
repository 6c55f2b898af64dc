/- Walk: script.Run of a tick and a look on an engine without models. -/
import Derived.Test.YtdlieanhdbbhiaaGreatDoorEngH
import Derived.Test.YtdlieanhdbbhiaaGreatDoorParse
import Derived.Test.YtdlieanhdbbhiaaGreatDoorTellNone
import Derived.Test.YtdlieanhdbbhiaaGreatDoorNumbersPure
set_option linter.unusedVariables false
set_option linter.unusedSimpArgs false
namespace Go.Proofs.YtdlieanhdbbhiaaGreatDoor
open Go.RowKit

abbrev runText : Rem.Str := [116, 105, 99, 107, 32, 53, 10, 108, 111, 111, 107, 32, 49, 10]
/-- an answer with nothing told but its code -/
def bare (c : Int) : Out := ⟨c, 0, 0, 0, 0, 0, 0, 0, []⟩
theorem int_zero : IntOk 0 := ⟨by decide, by decide⟩
theorem bare_ok (c : Int) (h0 : 0 ≤ c) (h1 : c ≤ 100) : (bare c).ok :=
  ⟨⟨by show _ ≤ c; omega, by show c ≤ _; omega⟩, int_zero, int_zero, int_zero, int_zero, int_zero, int_zero, by show 0 < 18446744073709551616; omega, fun t ht => by simp [bare] at ht⟩
theorem tell_bare (w : World) (c : Int) (h0 : 0 ≤ c) (h1 : c ≤ 100) (hG : Kept (Glob w)) :
    Calls Tryz.prog 6 #[.agg #[.int .i64 c, .int .i64 0, .int .i64 0, .int .i64 0, .int .i64 0, .int .i64 0, .int .i64 0, .int .u64 0, .slice none 0 0]] w fun e w' => (∃ g cap, e = .returned (.slice (some ⟨g, 0, none⟩) 1 cap) ∧ w.heap.size ≤ g ∧ w'.cell? ⟨g, 0, none⟩ = some (.string ⟨(head1 c).toArray⟩)) ∧ Below w.heap.size w w' := by
  refine (tell_none w (bare c) ⟨bare_ok c h0 h1⟩ (by simp [bare]) ⟨rfl⟩ none 0 hG ⟨fun j t h => by simp [bare] at h⟩).mono fun e w' hp => ?_
  obtain ⟨⟨v, he, hv⟩, hb⟩ := hp
  have hv1 : w'.ownsRow w.heap.size 9 1 v (0 + 1) (strVs [head1 c]) := hv
  obtain ⟨g, cap, rfl, hg, hcap⟩ := own_some hv1
  refine ⟨⟨g, cap, he, hg, ?_⟩, hb⟩
  rw [hv1.cellAt 0 (by simp [strVs])]
  simp [strVs]
theorem head_0 : head1 0 = [111, 107] := by rw [head1, if_pos rfl]
theorem head_7 : head1 7 = [101, 114, 114, 111, 114, 32, 55] := by
  rw [head1, if_neg (by decide), show (7 : Int) = ((7 : Nat) : Int) from rfl, Rem.itoa_nat, Rem.dec_small (by decide)]
  rfl

set_option maxRecDepth 1000000 in
set_option maxHeartbeats 3200000 in
theorem run_look (w : World) (hG : Kept (Glob w)) :
    Calls Tryz.prog 17 #[.agg cfg1, .string ⟨runText.toArray⟩] w fun e w' => (∃ v, e = .returned (.tuple #[v, .int .i64 0]) ∧ w'.ownsRow w.heap.size 9 1 v 2 (strVs [[111, 107], [101, 114, 114, 111, 114, 32, 55]])) ∧ Below w.heap.size w w' := by
  obtain ⟨i0, hi, hz0, hz1, hz2⟩ := info_parts info_str
  go_enter Tryz.func17, Tryz.ntmps17
  go_wp2_with fail
  refine (eng_new _).mono ?_
  rintro e w1 ⟨⟨x, b, wh, tm, wk, far, all, rs, rfl, he1, hx, hwh⟩, hb1⟩
  have HE1 := Kept.mk he1
  have HB1 : Kept (Below w.heap.size w w1) := ⟨((Below.refl _ _).alloc (Nat.le_refl _) _).trans (hb1.mono (by simp))⟩
  have hx1 : w.heap.size ≤ x ∧ w.heap.size ≤ wh := by simp at hx hwh; omega
  clear he1 hx hwh hb1
  unfold ptr
  go_wp2_with fail
  refine (parse_any runText _ ⟨hG.out.later HB1.out⟩ (by decide)).mono ?_
  intro e w2 hp
  unfold ParsePost at hp
  rw [Rem.parse_wakes3] at hp
  obtain ⟨⟨v, rfl, svs, hl, hown, hsets⟩, hb2⟩ := hp
  obtain ⟨s1, s2, rfl⟩ : ∃ s1 s2, svs = [s1, s2] := by
    match svs, hl with
    | [a, c], _ => exact ⟨a, c, rfl⟩
  obtain ⟨a1, k1, rfl⟩ := own_slice (hsets 0 _ _ rfl rfl)
  obtain ⟨a2, k2, rfl⟩ := own_slice (hsets 1 _ _ rfl rfl)
  obtain ⟨g, cap, rfl, hg, hcap⟩ := own_some (n := 1) hown
  have HE2 := Kept.mk (HE1.out.later hb2)
  have HB2 := Kept.mk (below_next HB1.out HB1.out.size hb2)
  have HC2 : Kept (∀ (j : Nat) (u : Value), [Value.int .i64 3, .int .i64 0, .int .u64 5, .string ⟨#[]⟩, .slice a1 0 k1, .int .i64 7, .int .i64 1, .int .u64 0, .string ⟨#[]⟩, .slice a2 0 k2][j]? = some u → w2.cell? ⟨g, j, none⟩ = some u) := ⟨fun j u hu => by
    have hj : j < 10 := by have := (List.getElem?_eq_some_iff.1 hu).1; simpa using this
    rw [hown.cellAt j (by simp [opVs]; omega)]
    rw [← hu]; rfl⟩
  have hgx : g ≠ x ∧ g ≠ wh := by
    have := HE1.out.lt
    have := HE1.out.wheel.lt
    omega
  clear hown hsets hb2 hl
  go_wp2_with fail
  refine (play2 _ x b wh tm wk far all rs HE2 g cap a1 a2 k1 k2 hgx HC2).mono ?_
  rintro e w3 ⟨⟨v3, rfl, hown3⟩, ho3⟩
  obtain ⟨g3, cap3, rfl, hg3, hcap3⟩ := own_some (n := 1) hown3
  have HX3 : Kept (Below w.heap.size w w3) := ⟨HB2.out.trans (ho3.to_below HB2.out.size (fun k hk => by rcases hk with rfl | rfl <;> omega))⟩
  have HR3 : Kept (w3.ownsRow w2.heap.size 28 9 (.slice (some ⟨g3, 0, none⟩) 2 cap3) 2 (outZero.toList ++ out7.toList)) := ⟨hown3⟩
  have HC3 : Kept (∀ (j : Nat) (u : Value), (outZero.toList ++ out7.toList)[j]? = some u → w3.cell? ⟨g3, j, none⟩ = some u) := ⟨fun j u hu => by
    have hj : j < 18 := by have := (List.getElem?_eq_some_iff.1 hu).1; simpa using this
    rw [hown3.cellAt j (by omega)]
    exact hu⟩
  have hs3 := HX3.out.size
  have hg3' : g3 < w3.heap.size := (hown3.lt g3 rfl).2
  clear hown3 ho3 hgx HC2
  have d0 := HC3.out 0 _ rfl
  have d1 := HC3.out 1 _ rfl
  have d2 := HC3.out 2 _ rfl
  have d3 := HC3.out 3 _ rfl
  have d4 := HC3.out 4 _ rfl
  have d5 := HC3.out 5 _ rfl
  have d6 := HC3.out 6 _ rfl
  have d7 := HC3.out 7 _ rfl
  have d8 := HC3.out 8 _ rfl
  go_wp2_with fail
  refine wp_loop_rounds 3 ?_
  rw [rounds_succ]
  go_wp2_with fail
  refine (tell_bare _ 0 (by omega) (by omega) ⟨hG.out.later (bl_a HX3.out)⟩).mono ?_
  rintro e w4 ⟨⟨g4, cap4, rfl, hg4, hc4⟩, hb4⟩
  rw [head_0] at hc4
  have HX4 : Kept (Below w.heap.size w w4) := ⟨bl_c hb4 (bl_a HX3.out)⟩
  have hs4 := HX4.out.size
  go_wp2_with (first
    | (at_builtin; refine wpList_append_own _ rfl _ _ 30 rfl (w.heap.size) 9 i0 (.string ⟨#[]⟩) 1 16 Tryz.underlying30 hi hz0 hz1 hz2 rfl (by decide) _ _ _ rfl (World.ownsRow_nil _ _ _ _) ⟨g4, 0, none⟩ 1 cap4 [.string ⟨#[111, 107]⟩] rfl rfl (fun j u hu => by match j, hu with | 0, hu => simp at hu; subst hu; simpa [Addr.add] using hc4) (by simp [Value.oneCell']) (by unfold maxLen; omega) (by omega) (by omega) ?_; intro v5 w5 hown' hgrow' hnil'))
  have hg5 : World.grownBy _ w5 none := hgrow'
  have hb5 : Below w4.heap.size w4 w5 := ⟨hg5.os, hg5.tape, hg5.output, hg5.size, fun k hk => hg5.block k hk (by simp)⟩
  have HR5 : Kept (w5.ownsRow w.heap.size 9 1 v5 1 [.string ⟨#[111, 107]⟩]) := ⟨by simpa using hown'⟩
  have HX5 : Kept (Below w.heap.size w w5) := ⟨bl_c hb5 HX4.out⟩
  have d9 : w5.cell? ⟨g3, 9, none⟩ = some (.int .i64 7) := cell_later' hb5 (cell_later' hb4 (cell_later' ((Below.refl _ _).alloc (Nat.le_refl _) _) (HC3.out 9 _ rfl)))
  have e10 : w5.cell? ⟨g3, 10, none⟩ = some (.int .i64 0) := cell_later' hb5 (cell_later' hb4 (cell_later' ((Below.refl _ _).alloc (Nat.le_refl _) _) (HC3.out 10 _ rfl)))
  have e11 : w5.cell? ⟨g3, 11, none⟩ = some (.int .i64 0) := cell_later' hb5 (cell_later' hb4 (cell_later' ((Below.refl _ _).alloc (Nat.le_refl _) _) (HC3.out 11 _ rfl)))
  have e12 : w5.cell? ⟨g3, 12, none⟩ = some (.int .i64 0) := cell_later' hb5 (cell_later' hb4 (cell_later' ((Below.refl _ _).alloc (Nat.le_refl _) _) (HC3.out 12 _ rfl)))
  have e13 : w5.cell? ⟨g3, 13, none⟩ = some (.int .i64 0) := cell_later' hb5 (cell_later' hb4 (cell_later' ((Below.refl _ _).alloc (Nat.le_refl _) _) (HC3.out 13 _ rfl)))
  have e14 : w5.cell? ⟨g3, 14, none⟩ = some (.int .i64 0) := cell_later' hb5 (cell_later' hb4 (cell_later' ((Below.refl _ _).alloc (Nat.le_refl _) _) (HC3.out 14 _ rfl)))
  have e15 : w5.cell? ⟨g3, 15, none⟩ = some (.int .i64 0) := cell_later' hb5 (cell_later' hb4 (cell_later' ((Below.refl _ _).alloc (Nat.le_refl _) _) (HC3.out 15 _ rfl)))
  have e16 : w5.cell? ⟨g3, 16, none⟩ = some (.int .u64 0) := cell_later' hb5 (cell_later' hb4 (cell_later' ((Below.refl _ _).alloc (Nat.le_refl _) _) (HC3.out 16 _ rfl)))
  have e17 : w5.cell? ⟨g3, 17, none⟩ = some (.slice none 0 0) := cell_later' hb5 (cell_later' hb4 (cell_later' ((Below.refl _ _).alloc (Nat.le_refl _) _) (HC3.out 17 _ rfl)))
  have hs5 := HX5.out.size
  clear hown' hgrow' hnil' hg5 hb5 hb4 hc4 d0 d1 d2 d3 d4 d5 d6 d7 d8
  go_wp2_with fail
  rw [rounds_succ]
  go_wp2_with fail
  refine (tell_bare _ 7 (by omega) (by omega) ⟨hG.out.later (bl_a HX5.out)⟩).mono ?_
  rintro e w6 ⟨⟨g6, cap6, rfl, hg6, hc6⟩, hb6⟩
  rw [head_7] at hc6
  have HX6 : Kept (Below w.heap.size w w6) := ⟨bl_c hb6 (bl_a HX5.out)⟩
  have HR6 := Kept.mk (pw_kept (HR5.out.alloc (.cells out7 28)) hb6)
  have hs6 := HX6.out.size
  go_wp2_with (first
    | (at_builtin; refine wpList_append_own _ rfl _ _ 30 rfl (w.heap.size) 9 i0 (.string ⟨#[]⟩) 1 16 Tryz.underlying30 hi hz0 hz1 hz2 rfl (by decide) _ _ _ rfl (HR6.out) ⟨g6, 0, none⟩ 1 cap6 [.string ⟨#[101, 114, 114, 111, 114, 32, 55]⟩] rfl rfl (fun j u hu => by match j, hu with | 0, hu => simp at hu; subst hu; simpa [Addr.add] using hc6) (by simp [Value.oneCell']) (by unfold maxLen; omega) (by omega) (by omega) ?_; intro v7 w7 hown' hgrow' hnil'))
  have HR7 : Kept (w7.ownsRow w.heap.size 9 1 v7 2 (strVs [[111, 107], [101, 114, 114, 111, 114, 32, 55]])) := ⟨hown'⟩
  have HX7 : Kept (Below w.heap.size w w7) := ⟨Below.grown HX6.out hgrow' HX6.out.size (fun j hj => (HR6.out.lt _ hj).1)⟩
  clear hown' hgrow' hnil' hb6 hc6
  go_wp2_with fail
  rw [rounds_succ]
  go_wp2_with fail
  go_ret2
  exact ⟨⟨_, rfl, HR7.out⟩, HX7.out⟩
end Go.Proofs.YtdlieanhdbbhiaaGreatDoor
