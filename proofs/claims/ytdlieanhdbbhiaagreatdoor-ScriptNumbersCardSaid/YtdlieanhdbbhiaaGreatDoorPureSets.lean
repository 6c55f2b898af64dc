/- script.sets, plainly. -/
import Derived.Test.YtdlieanhdbbhiaaGreatDoorPureLib
set_option linter.unusedVariables false
set_option linter.unusedSimpArgs false
namespace Rem
theorem sets_append (a b : List Str) : sets (a ++ b) = match sets a, sets b with | some x, some y => some (x ++ y) | _, _ => none := by
  induction a with
  | nil =>
    simp only [List.nil_append, sets]
    cases sets b <;> simp
  | cons w r ih =>
    simp only [List.cons_append, sets, ih]
    cases set w <;> cases sets r <;> cases sets b <;> simp
theorem sets_one (w : Str) : sets [w] = (set w).map fun x => [x] := by
  simp only [sets]
  cases set w <;> simp
theorem sets_next {l : List Str} {k : Nat} {acc : List (Int × Int)} {w : Str} {p : Int × Int} (h : sets (l.take k) = some acc) (hw : l[k]? = some w) (hp : set w = some p) : sets (l.take (k + 1)) = some (acc ++ [p]) := by
  obtain ⟨hk, e⟩ := List.getElem?_eq_some_iff.1 hw
  rw [List.take_succ_eq_append_getElem hk, sets_append, h, e, sets_one, hp]
  rfl
theorem sets_bad {l : List Str} {k : Nat} {w : Str} (hw : l[k]? = some w) (hp : set w = none) : sets l = none := by
  obtain ⟨hk, e⟩ := List.getElem?_eq_some_iff.1 hw
  have hl : l = l.take k ++ ([w] ++ l.drop (k + 1)) := by
    rw [← e]
    simp
  rw [hl, sets_append, sets_append, sets_one, hp]
  cases sets (l.take k) <;> rfl
theorem sets_len : ∀ (l : List Str) (acc : List (Int × Int)), sets l = some acc → acc.length = l.length
  | [], acc, h => by simp only [sets, Option.some.injEq] at h; subst h; rfl
  | w :: r, acc, h => by
    simp only [sets] at h
    split at h
    · rename_i x l' h1 h2
      cases h
      simp [sets_len r _ h2]
    · cases h
end Rem
