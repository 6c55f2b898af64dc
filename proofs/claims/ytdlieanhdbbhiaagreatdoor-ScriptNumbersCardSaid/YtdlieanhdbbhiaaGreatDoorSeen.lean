/- Walk: script.seen. -/
import Derived.Test.YtdlieanhdbbhiaaGreatDoorKinds
import Derived.Maps.OwnSet
import Derived.Maps.StringElems
set_option linter.unusedVariables false
set_option linter.unusedSimpArgs false
namespace Go.Proofs.YtdlieanhdbbhiaaGreatDoor
open Go.RowKit Go.WideMaps Go.Maps

def seenText (k : Int) : Rem.Str :=
  if k = 1 then [101, 110, 116, 101, 114, 115]
  else if k = 2 then [119, 111, 114, 107, 115]
  else if k = 3 then [97, 114, 109, 115]
  else if k = 4 then [111, 102, 102]
  else if k = 5 then [111, 112, 101, 110, 115]
  else if k = 6 then [115, 104, 117, 116, 115]
  else if k = 7 then [108, 111, 115, 116]
  else if k = 8 then [101, 110, 100, 115]
  else if k = 9 then [98, 114, 101, 97, 107, 115]
  else if k = 10 then [114, 101, 115, 116, 115]
  else if k = 11 then [98, 97, 99, 107, 115]
  else if k = 12 then [108, 97, 112, 115, 101, 115]
  else [63]
theorem lawI : Keyed Tryz.prog 3 := int_keyed Tryz.underlying3
theorem zeroS (w : World) : (zeroValue 9).run Tryz.prog w = .ok (.string ⟨#[]⟩) w := by kernel_rfl
abbrev sLit (s : Rem.Str) : DataW Unit := .lit (.string s)
theorem key_int (x : Int) : WideAt.IsKeyLit (.int .i64 x) := by trivial
def sd0 : DataW Unit := .map []
def sd1 : DataW Unit := sd0.put (.int .i64 1) (sLit [101, 110, 116, 101, 114, 115])
def sd2 : DataW Unit := sd1.put (.int .i64 2) (sLit [119, 111, 114, 107, 115])
def sd3 : DataW Unit := sd2.put (.int .i64 3) (sLit [97, 114, 109, 115])
def sd4 : DataW Unit := sd3.put (.int .i64 4) (sLit [111, 102, 102])
def sd5 : DataW Unit := sd4.put (.int .i64 5) (sLit [111, 112, 101, 110, 115])
def sd6 : DataW Unit := sd5.put (.int .i64 6) (sLit [115, 104, 117, 116, 115])
def sd7 : DataW Unit := sd6.put (.int .i64 7) (sLit [108, 111, 115, 116])
def sd8 : DataW Unit := sd7.put (.int .i64 8) (sLit [101, 110, 100, 115])
def sd9 : DataW Unit := sd8.put (.int .i64 9) (sLit [98, 114, 101, 97, 107, 115])
def sd10 : DataW Unit := sd9.put (.int .i64 10) (sLit [114, 101, 115, 116, 115])
def sd11 : DataW Unit := sd10.put (.int .i64 11) (sLit [98, 97, 99, 107, 115])
def sd12 : DataW Unit := sd11.put (.int .i64 12) (sLit [108, 97, 112, 115, 101, 115])
theorem sd_at (D : DataW Unit) (hD : IsMap D) (k : Int) (d : DataW Unit) (x : Int) : (D.put (.int .i64 k) d).atKey (.int .i64 x) (sLit []) = if x = k then d else D.atKey (.int .i64 x) (sLit []) := by
  by_cases h : x = k
  · subst h
    rw [if_pos rfl]
    exact atKey_put_same hD (key_int _) _ _
  · rw [if_neg h]
    exact atKey_put_other (by simpa using h) _ _
theorem sd_has (D : DataW Unit) (hD : IsMap D) (k : Int) (d : DataW Unit) (x : Int) : has (D.put (.int .i64 k) d) (.int .i64 x) = if x = k then true else has D (.int .i64 x) := by
  by_cases h : x = k
  · subst h
    rw [if_pos rfl]
    exact has_put_same hD (key_int _) _
  · rw [if_neg h]
    exact has_put_other (by simpa using h) _
theorem m0 : IsMap sd0 := isMap_empty
theorem m1 : IsMap sd1 := m0.put _ _
theorem m2 : IsMap sd2 := m1.put _ _
theorem m3 : IsMap sd3 := m2.put _ _
theorem m4 : IsMap sd4 := m3.put _ _
theorem m5 : IsMap sd5 := m4.put _ _
theorem m6 : IsMap sd6 := m5.put _ _
theorem m7 : IsMap sd7 := m6.put _ _
theorem m8 : IsMap sd8 := m7.put _ _
theorem m9 : IsMap sd9 := m8.put _ _
theorem m10 : IsMap sd10 := m9.put _ _
theorem m11 : IsMap sd11 := m10.put _ _
theorem m12 : IsMap sd12 := m11.put _ _
theorem seen_has (x : Int) : has sd12 (.int .i64 x) = decide (1 ≤ x ∧ x ≤ 12) := by
  unfold sd12; rw [sd_has _ m11]
  unfold sd11; rw [sd_has _ m10]
  unfold sd10; rw [sd_has _ m9]
  unfold sd9; rw [sd_has _ m8]
  unfold sd8; rw [sd_has _ m7]
  unfold sd7; rw [sd_has _ m6]
  unfold sd6; rw [sd_has _ m5]
  unfold sd5; rw [sd_has _ m4]
  unfold sd4; rw [sd_has _ m3]
  unfold sd3; rw [sd_has _ m2]
  unfold sd2; rw [sd_has _ m1]
  unfold sd1; rw [sd_has _ m0]
  rw [show has sd0 (.int .i64 x) = false from rfl]
  by_cases h : 1 ≤ x ∧ x ≤ 12
  · have : x = 1 ∨ x = 2 ∨ x = 3 ∨ x = 4 ∨ x = 5 ∨ x = 6 ∨ x = 7 ∨ x = 8 ∨ x = 9 ∨ x = 10 ∨ x = 11 ∨ x = 12 := by omega
    rcases this with rfl | rfl | rfl | rfl | rfl | rfl | rfl | rfl | rfl | rfl | rfl | rfl <;> rfl
  · rw [decide_eq_false h]
    rw [if_neg (by omega)]; rw [if_neg (by omega)]; rw [if_neg (by omega)]; rw [if_neg (by omega)]; rw [if_neg (by omega)]; rw [if_neg (by omega)]; rw [if_neg (by omega)]; rw [if_neg (by omega)]; rw [if_neg (by omega)]; rw [if_neg (by omega)]; rw [if_neg (by omega)]; rw [if_neg (by omega)]
theorem seen_at (x : Int) (h : 1 ≤ x ∧ x ≤ 12) : sd12.atKey (.int .i64 x) (sLit []) = sLit (seenText x) := by
  unfold sd12; rw [sd_at _ m11]
  unfold sd11; rw [sd_at _ m10]
  unfold sd10; rw [sd_at _ m9]
  unfold sd9; rw [sd_at _ m8]
  unfold sd8; rw [sd_at _ m7]
  unfold sd7; rw [sd_at _ m6]
  unfold sd6; rw [sd_at _ m5]
  unfold sd5; rw [sd_at _ m4]
  unfold sd4; rw [sd_at _ m3]
  unfold sd3; rw [sd_at _ m2]
  unfold sd2; rw [sd_at _ m1]
  unfold sd1; rw [sd_at _ m0]
  have : x = 1 ∨ x = 2 ∨ x = 3 ∨ x = 4 ∨ x = 5 ∨ x = 6 ∨ x = 7 ∨ x = 8 ∨ x = 9 ∨ x = 10 ∨ x = 11 ∨ x = 12 := by omega
  rcases this with rfl | rfl | rfl | rfl | rfl | rfl | rfl | rfl | rfl | rfl | rfl | rfl <;> rfl
theorem seenText_other (x : Int) (h : ¬ (1 ≤ x ∧ x ≤ 12)) : seenText x = [63] := by
  unfold seenText
  rw [if_neg (by omega)]; rw [if_neg (by omega)]; rw [if_neg (by omega)]; rw [if_neg (by omega)]; rw [if_neg (by omega)]; rw [if_neg (by omega)]; rw [if_neg (by omega)]; rw [if_neg (by omega)]; rw [if_neg (by omega)]; rw [if_neg (by omega)]; rw [if_neg (by omega)]; rw [if_neg (by omega)]
theorem seenText_len (x : Int) : (seenText x).length ≤ 6 := by
  by_cases h : 1 ≤ x ∧ x ≤ 12
  · have : x = 1 ∨ x = 2 ∨ x = 3 ∨ x = 4 ∨ x = 5 ∨ x = 6 ∨ x = 7 ∨ x = 8 ∨ x = 9 ∨ x = 10 ∨ x = 11 ∨ x = 12 := by omega
    rcases this with rfl | rfl | rfl | rfl | rfl | rfl | rfl | rfl | rfl | rfl | rfl | rfl <;> decide
  · rw [seenText_other x h]; decide

theorem sd12_of {w : World} {b : Nat} (h : w.ownsMap Tryz.prog 3 (plainElem (H := Unit) Tryz.prog 9) b (11 + 1) (sd11.put (.int .i64 12) (sLit [108, 97, 112, 115, 101, 115]))) : w.ownsMap Tryz.prog 3 (plainElem (H := Unit) Tryz.prog 9) b 12 sd12 := h
set_option maxRecDepth 1000000 in
set_option maxHeartbeats 1600000 in
theorem seen_of (x : Int) (hr : 1 ≤ x ∧ x ≤ 12 ∨ ¬ (1 ≤ x ∧ x ≤ 12)) (bb : Bool) (hdec : decide (1 ≤ x ∧ x ≤ 12) = bb) (h0 : -9223372036854775808 ≤ x) (h1 : x ≤ 9223372036854775807) (w : World) :
    Calls Tryz.prog 13 #[.int .i64 x] w fun e w' => e = .returned (.string ⟨(seenText x).toArray⟩) ∧ Below w.heap.size w w' := by
  have hmm := @run_makeMap Tryz.prog
  have hown0 : (w.alloc (.map #[] 0)).ownsMap Tryz.prog 3 (plainElem (H := Unit) Tryz.prog 9) w.heap.size 0 sd0 := World.ownsMap_made _ _ _ _
  have hbw0 : Below w.heap.size w (w.alloc (.map #[] 0)) := (Below.refl _ _).alloc (Nat.le_refl _) _
  have B0 : Kept (Below w.heap.size w (w.alloc (.map #[] 0))) := ⟨hbw0⟩
  have hkey : keyOf Tryz.prog 3 (.int .i64 x) = some (.int .i64 x) := keyOf_int_mk Tryz.underlying3 (by simp [Lit.wf, IntKind.min, IntKind.max, IntKind.bits, IntKind.signed]; omega)
  clear hbw0
  cases bb
  all_goals go_enter Tryz.func13, Tryz.ntmps13
  all_goals go_wp2_with (first
    | (with_reducible refine wpList_insert_own _ rfl _ _ _ 66 rfl 3 9 lawI Tryz.underlying66 _ w.heap.size 0 sd0 rfl hown0 (by unfold maxLen; omega) (.int .i64 1) (.string ⟨#[101, 110, 116, 101, 114, 115]⟩) (.int .i64 1) rfl rfl (keyOf_int_mk Tryz.underlying3 (by decide)) (sLit [101, 110, 116, 101, 114, 115]) [] (plainElem_string Tryz.underlying9 (by decide)) ?_; intro w1 hown1 hg1; have B1 : Kept (Below w.heap.size w w1) := ⟨Below.grown B0.out hg1 B0.out.size (fun j hj => by cases hj; exact Nat.le_refl _)⟩; clear hg1 hown0)
    | (with_reducible refine wpList_insert_own _ rfl _ _ _ 66 rfl 3 9 lawI Tryz.underlying66 _ w.heap.size 1 sd1 rfl hown1 (by unfold maxLen; omega) (.int .i64 2) (.string ⟨#[119, 111, 114, 107, 115]⟩) (.int .i64 2) rfl rfl (keyOf_int_mk Tryz.underlying3 (by decide)) (sLit [119, 111, 114, 107, 115]) [] (plainElem_string Tryz.underlying9 (by decide)) ?_; intro w2 hown2 hg2; have B2 : Kept (Below w.heap.size w w2) := ⟨Below.grown B1.out hg2 B1.out.size (fun j hj => by cases hj; exact Nat.le_refl _)⟩; clear hg2 hown1)
    | (with_reducible refine wpList_insert_own _ rfl _ _ _ 66 rfl 3 9 lawI Tryz.underlying66 _ w.heap.size 2 sd2 rfl hown2 (by unfold maxLen; omega) (.int .i64 3) (.string ⟨#[97, 114, 109, 115]⟩) (.int .i64 3) rfl rfl (keyOf_int_mk Tryz.underlying3 (by decide)) (sLit [97, 114, 109, 115]) [] (plainElem_string Tryz.underlying9 (by decide)) ?_; intro w3 hown3 hg3; have B3 : Kept (Below w.heap.size w w3) := ⟨Below.grown B2.out hg3 B2.out.size (fun j hj => by cases hj; exact Nat.le_refl _)⟩; clear hg3 hown2)
    | (with_reducible refine wpList_insert_own _ rfl _ _ _ 66 rfl 3 9 lawI Tryz.underlying66 _ w.heap.size 3 sd3 rfl hown3 (by unfold maxLen; omega) (.int .i64 4) (.string ⟨#[111, 102, 102]⟩) (.int .i64 4) rfl rfl (keyOf_int_mk Tryz.underlying3 (by decide)) (sLit [111, 102, 102]) [] (plainElem_string Tryz.underlying9 (by decide)) ?_; intro w4 hown4 hg4; have B4 : Kept (Below w.heap.size w w4) := ⟨Below.grown B3.out hg4 B3.out.size (fun j hj => by cases hj; exact Nat.le_refl _)⟩; clear hg4 hown3)
    | (with_reducible refine wpList_insert_own _ rfl _ _ _ 66 rfl 3 9 lawI Tryz.underlying66 _ w.heap.size 4 sd4 rfl hown4 (by unfold maxLen; omega) (.int .i64 5) (.string ⟨#[111, 112, 101, 110, 115]⟩) (.int .i64 5) rfl rfl (keyOf_int_mk Tryz.underlying3 (by decide)) (sLit [111, 112, 101, 110, 115]) [] (plainElem_string Tryz.underlying9 (by decide)) ?_; intro w5 hown5 hg5; have B5 : Kept (Below w.heap.size w w5) := ⟨Below.grown B4.out hg5 B4.out.size (fun j hj => by cases hj; exact Nat.le_refl _)⟩; clear hg5 hown4)
    | (with_reducible refine wpList_insert_own _ rfl _ _ _ 66 rfl 3 9 lawI Tryz.underlying66 _ w.heap.size 5 sd5 rfl hown5 (by unfold maxLen; omega) (.int .i64 6) (.string ⟨#[115, 104, 117, 116, 115]⟩) (.int .i64 6) rfl rfl (keyOf_int_mk Tryz.underlying3 (by decide)) (sLit [115, 104, 117, 116, 115]) [] (plainElem_string Tryz.underlying9 (by decide)) ?_; intro w6 hown6 hg6; have B6 : Kept (Below w.heap.size w w6) := ⟨Below.grown B5.out hg6 B5.out.size (fun j hj => by cases hj; exact Nat.le_refl _)⟩; clear hg6 hown5)
    | (with_reducible refine wpList_insert_own _ rfl _ _ _ 66 rfl 3 9 lawI Tryz.underlying66 _ w.heap.size 6 sd6 rfl hown6 (by unfold maxLen; omega) (.int .i64 7) (.string ⟨#[108, 111, 115, 116]⟩) (.int .i64 7) rfl rfl (keyOf_int_mk Tryz.underlying3 (by decide)) (sLit [108, 111, 115, 116]) [] (plainElem_string Tryz.underlying9 (by decide)) ?_; intro w7 hown7 hg7; have B7 : Kept (Below w.heap.size w w7) := ⟨Below.grown B6.out hg7 B6.out.size (fun j hj => by cases hj; exact Nat.le_refl _)⟩; clear hg7 hown6)
    | (with_reducible refine wpList_insert_own _ rfl _ _ _ 66 rfl 3 9 lawI Tryz.underlying66 _ w.heap.size 7 sd7 rfl hown7 (by unfold maxLen; omega) (.int .i64 8) (.string ⟨#[101, 110, 100, 115]⟩) (.int .i64 8) rfl rfl (keyOf_int_mk Tryz.underlying3 (by decide)) (sLit [101, 110, 100, 115]) [] (plainElem_string Tryz.underlying9 (by decide)) ?_; intro w8 hown8 hg8; have B8 : Kept (Below w.heap.size w w8) := ⟨Below.grown B7.out hg8 B7.out.size (fun j hj => by cases hj; exact Nat.le_refl _)⟩; clear hg8 hown7)
    | (with_reducible refine wpList_insert_own _ rfl _ _ _ 66 rfl 3 9 lawI Tryz.underlying66 _ w.heap.size 8 sd8 rfl hown8 (by unfold maxLen; omega) (.int .i64 9) (.string ⟨#[98, 114, 101, 97, 107, 115]⟩) (.int .i64 9) rfl rfl (keyOf_int_mk Tryz.underlying3 (by decide)) (sLit [98, 114, 101, 97, 107, 115]) [] (plainElem_string Tryz.underlying9 (by decide)) ?_; intro w9 hown9 hg9; have B9 : Kept (Below w.heap.size w w9) := ⟨Below.grown B8.out hg9 B8.out.size (fun j hj => by cases hj; exact Nat.le_refl _)⟩; clear hg9 hown8)
    | (with_reducible refine wpList_insert_own _ rfl _ _ _ 66 rfl 3 9 lawI Tryz.underlying66 _ w.heap.size 9 sd9 rfl hown9 (by unfold maxLen; omega) (.int .i64 10) (.string ⟨#[114, 101, 115, 116, 115]⟩) (.int .i64 10) rfl rfl (keyOf_int_mk Tryz.underlying3 (by decide)) (sLit [114, 101, 115, 116, 115]) [] (plainElem_string Tryz.underlying9 (by decide)) ?_; intro w10 hown10 hg10; have B10 : Kept (Below w.heap.size w w10) := ⟨Below.grown B9.out hg10 B9.out.size (fun j hj => by cases hj; exact Nat.le_refl _)⟩; clear hg10 hown9)
    | (with_reducible refine wpList_insert_own _ rfl _ _ _ 66 rfl 3 9 lawI Tryz.underlying66 _ w.heap.size 10 sd10 rfl hown10 (by unfold maxLen; omega) (.int .i64 11) (.string ⟨#[98, 97, 99, 107, 115]⟩) (.int .i64 11) rfl rfl (keyOf_int_mk Tryz.underlying3 (by decide)) (sLit [98, 97, 99, 107, 115]) [] (plainElem_string Tryz.underlying9 (by decide)) ?_; intro w11 hown11 hg11; have B11 : Kept (Below w.heap.size w w11) := ⟨Below.grown B10.out hg11 B10.out.size (fun j hj => by cases hj; exact Nat.le_refl _)⟩; clear hg11 hown10)
    | (with_reducible refine wpList_insert_own _ rfl _ _ _ 66 rfl 3 9 lawI Tryz.underlying66 _ w.heap.size 11 sd11 rfl hown11 (by unfold maxLen; omega) (.int .i64 12) (.string ⟨#[108, 97, 112, 115, 101, 115]⟩) (.int .i64 12) rfl rfl (keyOf_int_mk Tryz.underlying3 (by decide)) (sLit [108, 97, 112, 115, 101, 115]) [] (plainElem_string Tryz.underlying9 (by decide)) ?_; intro w12 hown12 hg12; have B12 : Kept (Below w.heap.size w w12) := ⟨Below.grown B11.out hg12 B11.out.size (fun j hj => by cases hj; exact Nat.le_refl _)⟩; clear hg12 hown11; have hownS := sd12_of hown12; obtain ⟨v, ps, hrun, hv⟩ := hownS.look_ok lawI Tryz.underlying66 (zeroS w12) (plainElem_string Tryz.underlying9 (by decide)) hkey; obtain ⟨sv, rfl, hsv, _⟩ := plainElem_string_inv Tryz.underlying9 hv; rw [seen_has, hdec] at hrun; clear hv hown12 hownS)
    )
  · have hin : ¬ (1 ≤ x ∧ x ≤ 12) := of_decide_eq_false hdec
    have h5 := Kept.mk (seenText_other x hin)
    go_ret
    exact ⟨by rw [h5.out]; rfl, B12.out⟩
  · have hsv2 := congrArg Prod.fst hsv
    have hin : 1 ≤ x ∧ x ≤ 12 := of_decide_eq_true hdec
    have h3 : sd12.atKey (.int .i64 x) (sLit []) = .lit (.string sv.data.toList) := hsv2
    rw [seen_at x hin] at h3
    have h4 : seenText x = sv.data.toList := by injection h3 with h3; injection h3
    have h5 : sv = ⟨(seenText x).toArray⟩ := by rw [h4]
    go_ret
    exact ⟨by rw [← h5]; rfl, B12.out⟩

theorem seen_any (x : Int) (h0 : -9223372036854775808 ≤ x) (h1 : x ≤ 9223372036854775807) (w : World) :
    Calls Tryz.prog 13 #[.int .i64 x] w fun e w' => e = .returned (.string ⟨(seenText x).toArray⟩) ∧ Below w.heap.size w w' :=
  seen_of x (Decidable.em _) _ rfl h0 h1 w
end Go.Proofs.YtdlieanhdbbhiaaGreatDoor
