import Derived.Test.YtdlieanhdbbhiaaGreatDoorSpec
set_option linter.unusedVariables false
set_option linter.unusedSimpArgs false
namespace Rem
/-- What a byte makes of the words so far. -/
def growW (acc : List Str) (c : UInt8) : List Str := if c.toNat = 32 then acc ++ [[]] else acc.dropLast ++ [(acc.getLast?.getD []) ++ [c]]
theorem growW_ne (acc : List Str) (c : UInt8) : growW acc c ≠ [] := by unfold growW; split <;> simp
theorem cut32_ne (l : Str) : cut32 l ≠ [] := by
  induction l with
  | nil => simp [cut32]
  | cons c r ih =>
    simp only [cut32]
    split
    · simp
    · split <;> simp
theorem foldl_growW (l : Str) (pre : List Str) (w : Str) : l.foldl growW (pre ++ [w]) = pre ++ (match cut32 l with | [] => [w] | x :: xs => (w ++ x) :: xs) := by
  induction l generalizing pre w with
  | nil => simp [cut32]
  | cons c r ih =>
    simp only [List.foldl_cons, cut32]
    by_cases hc : c.toNat = 32
    · simp only [growW, hc, if_true]
      rw [ih (pre ++ [w]) []]
      have := cut32_ne r
      cases h : cut32 r with
      | nil => exact absurd h this
      | cons x xs => simp
    · simp only [growW, hc, if_false]
      simp only [List.dropLast_concat, List.getLast?_concat, Option.getD_some]
      rw [ih pre (w ++ [c])]
      have := cut32_ne r
      cases h : cut32 r with
      | nil => exact absurd h this
      | cons x xs => simp
theorem foldl_cut32 (l : Str) : l.foldl growW [[]] = cut32 l := by
  have := foldl_growW l [] []
  simp only [List.nil_append] at this
  rw [this]
  have := cut32_ne l
  cases h : cut32 l with
  | nil => exact absurd h this
  | cons x xs => simp
theorem foldl_growW_ne (l : Str) (acc : List Str) (h : acc ≠ []) : l.foldl growW acc ≠ [] := by
  induction l generalizing acc with
  | nil => simpa
  | cons c r ih => exact ih _ (growW_ne _ _)
/-- The words so far of the first k bytes. -/
def soFar (l : Str) (k : Nat) : List Str := (l.take k).foldl growW [[]]
theorem soFar_zero (l : Str) : soFar l 0 = [[]] := by simp [soFar]
theorem soFar_succ (l : Str) (k : Nat) (h : k < l.length) : soFar l (k + 1) = growW (soFar l k) l[k] := by
  unfold soFar
  rw [List.take_succ_eq_append_getElem h, List.foldl_append]
  rfl
theorem soFar_ne (l : Str) (k : Nat) : soFar l k ≠ [] := foldl_growW_ne _ _ (by simp)
theorem soFar_all (l : Str) (k : Nat) (h : l.length ≤ k) : soFar l k = cut32 l := by
  unfold soFar
  rw [List.take_of_length_le h, foldl_cut32]
theorem soFar_len (l : Str) (k : Nat) : (soFar l k).length ≤ k + 1 := by
  induction k with
  | zero => simp [soFar_zero]
  | succ k ih =>
    by_cases h : k < l.length
    · rw [soFar_succ l k h]
      unfold growW
      have := List.length_pos_iff.2 (soFar_ne l k)
      split <;> simp <;> omega
    · have e : soFar l (k + 1) = soFar l k := by
        unfold soFar
        rw [List.take_of_length_le (by omega), List.take_of_length_le (by omega)]
      rw [e]; omega
theorem growW_word (acc : List Str) (c : UInt8) (k : Nat) (h : ∀ w ∈ acc, w.length ≤ k) : ∀ w ∈ growW acc c, w.length ≤ k + 1 := by
  intro w hw
  unfold growW at hw
  split at hw
  · simp at hw
    rcases hw with hw | rfl
    · have := h w hw; omega
    · simp
  · simp at hw
    rcases hw with hw | rfl
    · have := h w (List.dropLast_subset _ hw); omega
    · cases hl : acc.getLast? with
      | none => simp
      | some x =>
        have := h x (List.mem_of_getLast? hl)
        simp; omega
theorem soFar_word (l : Str) (k : Nat) : ∀ w ∈ soFar l k, w.length ≤ k := by
  induction k with
  | zero => simp [soFar_zero]
  | succ k ih =>
    by_cases h : k < l.length
    · rw [soFar_succ l k h]
      exact growW_word _ _ _ ih
    · have e : soFar l (k + 1) = soFar l k := by
        unfold soFar
        rw [List.take_of_length_le (by omega), List.take_of_length_le (by omega)]
      rw [e]
      intro w hw
      have := ih w hw
      omega
theorem split_bad (l : Str) (k : Nat) (h : k < l.length) (hb : plainByte l[k] = false) : split l = none := by
  unfold split
  rw [if_neg]
  simp only [Bool.and_eq_true, List.all_eq_true, not_and]
  intro h1
  have := h1 l[k] (List.getElem_mem h)
  rw [hb] at this
  cases this
theorem split_good (l : Str) (h : l.all plainByte = true) : split l = if (cut32 l).all (fun w => !w.isEmpty) then some (cut32 l) else none := by
  unfold split
  rw [h]; simp
end Rem
