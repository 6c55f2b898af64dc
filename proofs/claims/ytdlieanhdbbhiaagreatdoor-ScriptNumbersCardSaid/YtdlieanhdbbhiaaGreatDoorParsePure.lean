/- The plain law of script.Parse. No program in sight. -/
import Derived.Test.YtdlieanhdbbhiaaGreatDoorSpec
set_option linter.unusedVariables false
set_option linter.unusedSimpArgs false
namespace Rem

theorem lines_len {n : Nat} {s a b : Str} (h : lines n s = some (a, b)) : b.length + n ≤ s.length := by
  induction n generalizing s a b with
  | zero => simp [lines] at h; simp [h.2]
  | succ n ih =>
    simp only [lines] at h
    split at h
    · cases h
    · rename_i x y hc
      simp only [Option.map_eq_some_iff] at h
      obtain ⟨⟨u, v⟩, hx, he⟩ := h
      simp only [Prod.mk.injEq] at he
      obtain ⟨_, rfl⟩ := he
      have := ih hx
      have := cut10_lt hc
      omega
theorem one_len {s : Str} {o : Op} {r : Str} {k : Nat} (h : one s = some (o, r, k)) : r.length + k ≤ s.length := by
  unfold one at h
  split at h
  · cases h
  · rename_i t rest hc
    have := cut10_lt hc
    split at h
    · cases h
    · split at h
      · split at h
        · cases h
        · rename_i x y hl
          have := lines_len hl
          simp only [Option.some.injEq, Prod.mk.injEq] at h
          obtain ⟨_, rfl, rfl⟩ := h
          omega
      · simp only [Option.some.injEq, Prod.mk.injEq] at h
        obtain ⟨_, rfl, rfl⟩ := h
        omega

theorem parseFrom_fuel (f g at_ : Nat) (s : Str) (hf : s.length < f) (hg : s.length < g) : parseFrom f at_ s = parseFrom g at_ s := by
  induction f generalizing g at_ s with
  | zero => omega
  | succ f ih =>
    cases g with
    | zero => omega
    | succ g =>
      cases s with
      | nil => rfl
      | cons c r =>
        unfold parseFrom
        cases h : one (c :: r) with
        | none => rfl
        | some p =>
          obtain ⟨o, x, k⟩ := p
          have hlt := one_lt h
          dsimp only
          rw [ih g (at_ + k) x (by omega) (by omega)]

/-- what the rest of a text says -/
def rest (at_ : Nat) (s : Str) : List Op ⊕ Nat := parseFrom (s.length + 1) at_ s
def glue (acc : List Op) : List Op ⊕ Nat → List Op ⊕ Nat
  | .inl l => .inl (acc ++ l)
  | .inr e => .inr e
theorem parse_rest (s : Str) : parse s = glue [] (rest 1 s) := by
  unfold parse rest
  cases parseFrom (s.length + 1) 1 s <;> rfl
theorem rest_nil (at_ : Nat) (acc : List Op) : glue acc (rest at_ []) = .inl acc := by
  show Sum.inl (acc ++ []) = _
  rw [List.append_nil]
theorem rest_bad {at_ : Nat} {s : Str} {acc : List Op} (h0 : s ≠ []) (h : one s = none) : glue acc (rest at_ s) = .inr at_ := by
  cases s with
  | nil => exact absurd rfl h0
  | cons c r =>
    unfold rest parseFrom
    rw [h]
    rfl
theorem rest_step {at_ : Nat} {s r : Str} {acc : List Op} {o : Op} {k : Nat} (h : one s = some (o, r, k)) : glue acc (rest at_ s) = glue (acc ++ [o]) (rest (at_ + k) r) := by
  have hlt := one_lt h
  cases s with
  | nil => simp at hlt
  | cons c t =>
    unfold rest
    conv => lhs; unfold parseFrom
    rw [h]
    dsimp only
    rw [parseFrom_fuel (c :: t).length (r.length + 1) (at_ + k) r (by simpa using hlt) (by omega)]
    cases parseFrom (r.length + 1) (at_ + k) r <;> simp [glue]

theorem one_none_cut {s : Str} (h : cut10 s = none) : one s = none := by unfold one; rw [h]
theorem one_none_line {s t r : Str} (h : cut10 s = some (t, r)) (hl : line t = none) : one s = none := by unfold one; rw [h]; simp [hl]
theorem one_plain {s t r : Str} {o : Op} (h : cut10 s = some (t, r)) (hl : line t = some o) (hk : o.kind ≠ 1) : one s = some (o, r, 1) := by
  unfold one; rw [h]; simp [hl, hk]
theorem one_deploy_none {s t r : Str} {o : Op} (h : cut10 s = some (t, r)) (hl : line t = some o) (hk : o.kind = 1) (hx : lines o.n r = none) : one s = none := by
  unfold one; rw [h]; simp [hl, hk, hx]
theorem one_deploy {s t r x y : Str} {o : Op} (h : cut10 s = some (t, r)) (hl : line t = some o) (hk : o.kind = 1) (hx : lines o.n r = some (x, y)) : one s = some ({ o with text := x, n := 0 }, y, o.n + 1) := by
  unfold one; rw [h]; simp [hl, hk, hx]
theorem cut10_len {s a b : Str} (h : cut10 s = some (a, b)) : a.length + b.length + 1 = s.length := by
  induction s generalizing a b with
  | nil => simp [cut10] at h
  | cons c r ih =>
    simp only [cut10] at h
    split at h
    · simp only [Option.some.injEq, Prod.mk.injEq] at h
      obtain ⟨rfl, rfl⟩ := h
      simp
    · simp only [Option.map_eq_some_iff] at h
      obtain ⟨⟨x, y⟩, hx, he⟩ := h
      simp only [Prod.mk.injEq] at he
      obtain ⟨rfl, rfl⟩ := he
      have := ih hx
      simp; omega

theorem wnumber_most {l : Str} {m : Int} {n : Nat} (h : wnumber l m = some n) : (n : Int) ≤ m := by
  unfold wnumber at h
  split at h
  · split at h
    · rename_i hle
      cases h; exact hle
    · cases h
  · cases h
theorem kind_range (w : Str) : 0 ≤ kindOf w ∧ kindOf w ≤ 7 := by
  unfold kindOf
  repeat' split
  all_goals decide
/-- what a line can say -/
theorem line_facts {l : Str} {o : Op} (h : line l = some o) : 0 ≤ o.kind ∧ o.kind ≤ 7 ∧ 0 ≤ o.id ∧ o.id ≤ 999999999 ∧ o.n ≤ 4611686018427387904 ∧ (o.kind = 1 → o.n ≤ 6000 ∧ o.id = 0 ∧ o.sets = []) ∧ o.text = [] := by
  unfold line at h
  split at h
  · cases h
  · cases h
  · rename_i w l hs
    have hk := kind_range w
    dsimp only at h
    split at h
    · cases h
    split at h
    · split at h
      · cases h; simp
      · cases h
    split at h
    · cases h
    rename_i a r
    split at h
    · split at h
      · split at h
        · rename_i hc; cases h; simp; omega
        · cases h
      · cases h
    split at h
    · split at h
      · rename_i n hn
        have := wnumber_most hn
        split at h
        · cases h; simp; omega
        · cases h
      · cases h
    split at h
    · cases h
    rename_i hk1 _ n hn
    have := wnumber_most hn
    split at h
    · simp only [Option.map_eq_some_iff] at h
      obtain ⟨x, _, rfl⟩ := h
      exact ⟨hk.1, hk.2, by simp, by simp; omega, by simp, fun e => absurd e hk1, rfl⟩
    · split at h
      · cases h
        exact ⟨hk.1, hk.2, by simp, by simp; omega, by simp, fun e => absurd e hk1, rfl⟩
      · cases h
end Rem
