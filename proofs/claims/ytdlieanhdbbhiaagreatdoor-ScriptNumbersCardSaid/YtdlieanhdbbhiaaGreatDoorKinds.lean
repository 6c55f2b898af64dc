/- Walk: script.kinds; the look-up of a word in it. -/
import Derived.Test.YtdlieanhdbbhiaaGreatDoorGlob
import Derived.Outline
import Derived.Maps.Own
import Derived.Maps.OwnOps
import Derived.Maps.Views
set_option linter.unusedVariables false
set_option linter.unusedSimpArgs false
namespace Go.Proofs.YtdlieanhdbbhiaaGreatDoor
open Go.RowKit Go.WideMaps Go.Maps

theorem wpList_insert_own {H : Type} {P : Program} (w : World) {ops : Array Oper} {rest : List Oper} {o : Oper} {a : Act} {Q : Exit → Act → World → Prop}
    (hg : o.guard = none) (m x v : Operand) (t : TypeId) (hop : o.op = Op.insert t m x v)
    (k e : TypeId) (K : Keyed P k) (ht : P.underlying t = some (.map k e)) (R : Value → Option (DataW H × List MemPlace)) (b n : Nat) (D : DataW H)
    (hm : a.eval m = .map (some b)) (hown : w.ownsMap P k R b n D) (hn : n < maxLen) (key val : Value) (kl : Lit) (hx : a.eval x = key) (hv : a.eval v = val) (hkey : keyOf P k key = some kl)
    (d : DataW H) (ps : List MemPlace) (hval : R val = some (d, ps))
    (hK : ∀ w', w'.ownsMap P k R b (n + 1) (D.put kl d) → w.grownBy w' (some b) → wpList P ops Q rest (a.put o.dst undef) w') :
    wpList P ops Q (o :: rest) a w := by
  refine wpList_plain hg fun K' hK' => ?_
  obtain ⟨w', hrun, r1, r2⟩ := hown.update K ht hn hkey hval
  unfold Oper.wp
  simp [execOp, hop, hm, hx, hv, hrun, Result.andThen]
  exact hK' _ _ (hK w' r1 r2)

theorem lawS : Keyed Tryz.prog 9 := string_keyed Tryz.underlying9
theorem zeroI (w : World) : (zeroValue 3).run Tryz.prog w = .ok (.int .i64 0) w := by kernel_rfl
abbrev i64 (n : Int) : DataW Unit := .lit (.int .i64 n)
def kd0 : DataW Unit := .map []
def kd1 : DataW Unit := kd0.put (.string [100, 101, 112, 108, 111, 121]) (i64 1)
def kd2 : DataW Unit := kd1.put (.string [98, 101, 103, 105, 110]) (i64 2)
def kd3 : DataW Unit := kd2.put (.string [116, 105, 99, 107]) (i64 3)
def kd4 : DataW Unit := kd3.put (.string [102, 101, 116, 99, 104]) (i64 4)
def kd5 : DataW Unit := kd4.put (.string [99, 111, 109, 112, 108, 101, 116, 101]) (i64 5)
def kd6 : DataW Unit := kd5.put (.string [103, 105, 118, 101, 117, 112]) (i64 6)
def kd7 : DataW Unit := kd6.put (.string [108, 111, 111, 107]) (i64 7)
def KindsAt (w : World) (b : Nat) : Prop := w.ownsMap Tryz.prog 9 (plainElem (H := Unit) Tryz.prog 3) b 7 kd7

theorem key_lit (w : Rem.Str) : WideAt.IsKeyLit (.string w) := by trivial
theorem kinds_at (w : Rem.Str) : kd7.atKey (.string w) (i64 0) = i64 (Rem.kindOf w) := by
  have m0 : IsMap kd0 := isMap_empty
  have m1 : IsMap kd1 := m0.put _ _
  have m2 : IsMap kd2 := m1.put _ _
  have m3 : IsMap kd3 := m2.put _ _
  have m4 : IsMap kd4 := m3.put _ _
  have m5 : IsMap kd5 := m4.put _ _
  have m6 : IsMap kd6 := m5.put _ _
  have one : ∀ (D : DataW Unit) (k : Rem.Str) (d : DataW Unit), IsMap D → (D.put (.string k) d).atKey (.string w) (i64 0) = if w = k then d else D.atKey (.string w) (i64 0) := by
    intro D k d hD
    by_cases h : w = k
    · subst h
      rw [if_pos rfl]
      exact atKey_put_same hD (key_lit _) _ _
    · rw [if_neg h]
      exact atKey_put_other (by simpa using h) _ _
  unfold kd7; rw [one _ _ _ m6]
  unfold kd6; rw [one _ _ _ m5]
  unfold kd5; rw [one _ _ _ m4]
  unfold kd4; rw [one _ _ _ m3]
  unfold kd3; rw [one _ _ _ m2]
  unfold kd2; rw [one _ _ _ m1]
  unfold kd1; rw [one _ _ _ m0]
  have e0 : kd0.atKey (.string w) (i64 0) = i64 0 := rfl
  rw [e0]
  unfold Rem.kindOf
  by_cases h7 : w = [108, 111, 111, 107]
  · subst h7; rfl
  · by_cases h6 : w = [103, 105, 118, 101, 117, 112]
    · subst h6; rfl
    · by_cases h5 : w = [99, 111, 109, 112, 108, 101, 116, 101]
      · subst h5; rfl
      · by_cases h4 : w = [102, 101, 116, 99, 104]
        · subst h4; rfl
        · by_cases h3 : w = [116, 105, 99, 107]
          · subst h3; rfl
          · by_cases h2 : w = [98, 101, 103, 105, 110]
            · subst h2; rfl
            · by_cases h1 : w = [100, 101, 112, 108, 111, 121]
              · subst h1; rfl
              · simp [h1, h2, h3, h4, h5, h6, h7]

set_option maxRecDepth 1000000 in
set_option maxHeartbeats 400000 in
theorem kinds_any (w : World) :
    Calls Tryz.prog 32 #[] w fun e w' => (∃ b, e = .returned (.map (some b)) ∧ KindsAt w' b) ∧ Below w.heap.size w w' := by
  have hmm := @run_makeMap Tryz.prog
  have hown0 : (w.alloc (.map #[] 0)).ownsMap Tryz.prog 9 (plainElem (H := Unit) Tryz.prog 3) w.heap.size 0 kd0 := World.ownsMap_made _ _ _ _
  have hbw0 : Below w.heap.size w (w.alloc (.map #[] 0)) := (Below.refl _ _).alloc (Nat.le_refl _) _
  go_enter Tryz.func32, Tryz.ntmps32
  go_wp2_with (first
    | (with_reducible refine wpList_insert_own _ rfl _ _ _ 84 rfl 9 3 lawS Tryz.underlying84 _ w.heap.size 0 kd0 rfl hown0 (by unfold maxLen; omega) (.string ⟨#[100, 101, 112, 108, 111, 121]⟩) (.int .i64 1) (.string [100, 101, 112, 108, 111, 121]) rfl rfl (keyOf_string_mk Tryz.underlying9 (by decide)) (i64 1) [] (plainElem_int Tryz.underlying3 (by decide)) ?_; intro w1 hown1 hg1; have B1 : Kept (Below w.heap.size w w1) := ⟨Below.grown hbw0 hg1 hbw0.size (fun j hj => by cases hj; exact Nat.le_refl _)⟩; clear hg1 hown0)
    | (with_reducible refine wpList_insert_own _ rfl _ _ _ 84 rfl 9 3 lawS Tryz.underlying84 _ w.heap.size 1 kd1 rfl hown1 (by unfold maxLen; omega) (.string ⟨#[98, 101, 103, 105, 110]⟩) (.int .i64 2) (.string [98, 101, 103, 105, 110]) rfl rfl (keyOf_string_mk Tryz.underlying9 (by decide)) (i64 2) [] (plainElem_int Tryz.underlying3 (by decide)) ?_; intro w2 hown2 hg2; have B2 : Kept (Below w.heap.size w w2) := ⟨Below.grown B1.out hg2 B1.out.size (fun j hj => by cases hj; exact Nat.le_refl _)⟩; clear hg2 hown1)
    | (with_reducible refine wpList_insert_own _ rfl _ _ _ 84 rfl 9 3 lawS Tryz.underlying84 _ w.heap.size 2 kd2 rfl hown2 (by unfold maxLen; omega) (.string ⟨#[116, 105, 99, 107]⟩) (.int .i64 3) (.string [116, 105, 99, 107]) rfl rfl (keyOf_string_mk Tryz.underlying9 (by decide)) (i64 3) [] (plainElem_int Tryz.underlying3 (by decide)) ?_; intro w3 hown3 hg3; have B3 : Kept (Below w.heap.size w w3) := ⟨Below.grown B2.out hg3 B2.out.size (fun j hj => by cases hj; exact Nat.le_refl _)⟩; clear hg3 hown2)
    | (with_reducible refine wpList_insert_own _ rfl _ _ _ 84 rfl 9 3 lawS Tryz.underlying84 _ w.heap.size 3 kd3 rfl hown3 (by unfold maxLen; omega) (.string ⟨#[102, 101, 116, 99, 104]⟩) (.int .i64 4) (.string [102, 101, 116, 99, 104]) rfl rfl (keyOf_string_mk Tryz.underlying9 (by decide)) (i64 4) [] (plainElem_int Tryz.underlying3 (by decide)) ?_; intro w4 hown4 hg4; have B4 : Kept (Below w.heap.size w w4) := ⟨Below.grown B3.out hg4 B3.out.size (fun j hj => by cases hj; exact Nat.le_refl _)⟩; clear hg4 hown3)
    | (with_reducible refine wpList_insert_own _ rfl _ _ _ 84 rfl 9 3 lawS Tryz.underlying84 _ w.heap.size 4 kd4 rfl hown4 (by unfold maxLen; omega) (.string ⟨#[99, 111, 109, 112, 108, 101, 116, 101]⟩) (.int .i64 5) (.string [99, 111, 109, 112, 108, 101, 116, 101]) rfl rfl (keyOf_string_mk Tryz.underlying9 (by decide)) (i64 5) [] (plainElem_int Tryz.underlying3 (by decide)) ?_; intro w5 hown5 hg5; have B5 : Kept (Below w.heap.size w w5) := ⟨Below.grown B4.out hg5 B4.out.size (fun j hj => by cases hj; exact Nat.le_refl _)⟩; clear hg5 hown4)
    | (with_reducible refine wpList_insert_own _ rfl _ _ _ 84 rfl 9 3 lawS Tryz.underlying84 _ w.heap.size 5 kd5 rfl hown5 (by unfold maxLen; omega) (.string ⟨#[103, 105, 118, 101, 117, 112]⟩) (.int .i64 6) (.string [103, 105, 118, 101, 117, 112]) rfl rfl (keyOf_string_mk Tryz.underlying9 (by decide)) (i64 6) [] (plainElem_int Tryz.underlying3 (by decide)) ?_; intro w6 hown6 hg6; have B6 : Kept (Below w.heap.size w w6) := ⟨Below.grown B5.out hg6 B5.out.size (fun j hj => by cases hj; exact Nat.le_refl _)⟩; clear hg6 hown5)
    | (with_reducible refine wpList_insert_own _ rfl _ _ _ 84 rfl 9 3 lawS Tryz.underlying84 _ w.heap.size 6 kd6 rfl hown6 (by unfold maxLen; omega) (.string ⟨#[108, 111, 111, 107]⟩) (.int .i64 7) (.string [108, 111, 111, 107]) rfl rfl (keyOf_string_mk Tryz.underlying9 (by decide)) (i64 7) [] (plainElem_int Tryz.underlying3 (by decide)) ?_; intro w7 hown7 hg7; have B7 : Kept (Below w.heap.size w w7) := ⟨Below.grown B6.out hg7 B6.out.size (fun j hj => by cases hj; exact Nat.le_refl _)⟩; clear hg7 hown6))
  go_ret
  exact ⟨⟨w.heap.size, rfl, hown7⟩, B7.out⟩

/-- what the map answers, in every later world -/
def LookAt (w : World) (b : Nat) : Prop := ∀ (x : Rem.Str), x.length ≤ 1000000 → ∀ W, Below w.heap.size w W → (Instr.lookup 84 (.map (some b)) (.string ⟨x.toArray⟩) false).run Tryz.prog W = .ok (.int .i64 (Rem.kindOf x)) W
set_option maxRecDepth 1000000 in
theorem KindsAt.look {w : World} {b : Nat} (h : KindsAt w b) : LookAt w b := by
  intro x hx W hb
  have h2 : W.ownsMap Tryz.prog 9 (plainElem (H := Unit) Tryz.prog 3) b 7 kd7 := by
    obtain ⟨es, clock, h1, r⟩ := h
    exact ⟨es, clock, by rw [hb.block b (Array.getElem?_eq_some_iff.1 h1).1]; exact h1, r⟩
  have hkey : keyOf Tryz.prog 9 (.string ⟨x.toArray⟩) = some (.string x) := by
    have := keyOf_string_mk (s := ⟨x.toArray⟩) Tryz.underlying9 (by rw [size_mk]; unfold maxLen; omega)
    simpa using this
  obtain ⟨c, hrun, hat, _⟩ := h2.lookup_int lawS Tryz.underlying84 Tryz.underlying3 (zeroI W) hkey
  rw [hrun]
  have e := kinds_at x
  have e2 : i64 (Rem.kindOf x) = i64 c := by rw [← e]; exact hat
  have e3 : Rem.kindOf x = c := by injection e2 with e2; injection e2
  rw [e3]
end Go.Proofs.YtdlieanhdbbhiaaGreatDoor
