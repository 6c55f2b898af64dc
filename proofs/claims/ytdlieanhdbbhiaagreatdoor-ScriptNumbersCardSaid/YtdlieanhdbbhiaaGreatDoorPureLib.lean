/- What the library's functions say of the plain functions of Rem: no program in sight. -/
import Derived.Test.YtdlieanhdbbhiaaGreatDoorPure
import Derived.Lib.IndexMore
import Derived.Lib.ParseIntB
import Derived.Lib.AtoiAll
import Derived.Lib.SlTrimSet
import Derived.Lib.Bytealg
set_option linter.unusedVariables false
set_option linter.unusedSimpArgs false
namespace Rem
open Go

/-- a text up to the first byte c -/
def cutAt (c : UInt8) : Str → Option (Str × Str)
  | [] => none
  | b :: r => if b = c then some ([], r) else (cutAt c r).map fun (x, y) => (b :: x, y)
theorem cutAt_10 (s : Str) : cutAt 10 s = cut10 s := by
  induction s with
  | nil => rfl
  | cons b r ih =>
    simp only [cutAt, cut10, ih]
    by_cases h : b = 10
    · subst h; rfl
    · rw [if_neg h, if_neg]
      intro e
      exact h (UInt8.toNat_inj.1 e)
theorem index_one (c : UInt8) : ∀ s : Str, (cutAt c s = none ∧ Lib.index s [c] = -1) ∨ (∃ a b, cutAt c s = some (a, b) ∧ Lib.index s [c] = a.length ∧ s = a ++ c :: b)
  | [] => .inl ⟨rfl, rfl⟩
  | b :: r => by
    by_cases h : b = c
    · subst h
      refine .inr ⟨[], r, by simp [cutAt], ?_, rfl⟩
      unfold Lib.index
      simp [List.isPrefixOf]
    · have hp : List.isPrefixOf [c] (b :: r) = false := by
        simp [List.isPrefixOf]
        exact fun e => h e.symm
      rcases index_one c r with ⟨h1, h2⟩ | ⟨x, y, h1, h2, h3⟩
      · exact .inl ⟨by simp [cutAt, h, h1], by unfold Lib.index; rw [hp, h2]; rfl⟩
      · refine .inr ⟨b :: x, y, by simp [cutAt, h, h1], ?_, by rw [h3]; rfl⟩
        unfold Lib.index
        rw [hp, h2]
        have : (((x.length : Nat) : Int) == -1) = false := by rw [beq_eq_false_iff_ne]; omega
        simp [this]
theorem lib_cut (c : UInt8) (s : Str) : Lib.cut s [c] = match cutAt c s with | some (a, b) => (a, b, true) | none => (s, [], false) := by
  unfold Lib.cut
  rcases index_one c s with ⟨h1, h2⟩ | ⟨a, b, h1, h2, h3⟩
  · rw [h1, h2]; rfl
  · rw [h1, h2, if_pos (by omega)]
    simp only [Int.toNat_natCast]
    rw [h3]
    simp
theorem cutAt_eq {c : UInt8} {s a b : Str} (h : cutAt c s = some (a, b)) : s = a ++ c :: b := by
  rcases index_one c s with ⟨h1, _⟩ | ⟨x, y, h1, _, h3⟩
  · rw [h1] at h; cases h
  · rw [h1] at h; cases h; exact h3

/-! ### digits -/
theorem all_digit_trim (w : Str) : (Lib.trimS w [48, 49, 50, 51, 52, 53, 54, 55, 56, 57] = []) ↔ w.all digit = true := by
  have hc : ∀ c : UInt8, ([48, 49, 50, 51, 52, 53, 54, 55, 56, 57] : List UInt8).contains c = digit c := by
    intro c
    unfold digit
    rw [Bool.eq_iff_iff]
    simp only [List.contains_eq_mem, List.mem_cons, List.not_mem_nil, or_false, decide_eq_true_eq, Bool.and_eq_true]
    constructor
    · rintro (rfl | rfl | rfl | rfl | rfl | rfl | rfl | rfl | rfl | rfl) <;> decide
    · rintro ⟨h1, h2⟩
      have : c = UInt8.ofNat c.toNat := by simp
      have h3 : c.toNat = 48 ∨ c.toNat = 49 ∨ c.toNat = 50 ∨ c.toNat = 51 ∨ c.toNat = 52 ∨ c.toNat = 53 ∨ c.toNat = 54 ∨ c.toNat = 55 ∨ c.toNat = 56 ∨ c.toNat = 57 := by omega
      rcases h3 with h | h | h | h | h | h | h | h | h | h <;> (rw [h] at this; subst this; simp)
  unfold Lib.trimS Lib.trimLeftS Lib.trimRightS
  simp only [hc]
  constructor
  · intro h
    have h1 : ∀ l : Str, l.dropWhile digit = [] → l.all digit = true := by
      intro l
      induction l with
      | nil => simp
      | cons a r ih =>
        intro h
        simp only [List.dropWhile] at h
        split at h
        · rename_i ha
          simp only [List.all_cons, ha, Bool.true_and]
          exact ih h
        · cases h
    have h2 := h1 _ h
    -- what is left of the right end, too
    have h3 : (w.reverse.dropWhile digit).all digit = true := by
      rw [List.all_eq_true] at h2 ⊢
      intro x hx
      exact h2 x (by simpa using hx)
    have h4 : w.reverse.dropWhile digit = [] := by
      cases hq : w.reverse.dropWhile digit with
      | nil => rfl
      | cons a r =>
        have ha : digit a = false := by
          have := List.head?_dropWhile_not digit w.reverse
          rw [hq] at this
          simpa using this
        rw [hq] at h3
        simp [ha] at h3
    have := h1 _ h4
    rw [List.all_eq_true] at this ⊢
    intro x hx
    exact this x (by simpa using hx)
  · intro h
    have h1 : ∀ l : Str, l.all digit = true → l.dropWhile digit = [] := by
      intro l
      induction l with
      | nil => simp
      | cons a r ih =>
        intro h
        simp only [List.all_cons, Bool.and_eq_true] at h
        simp [List.dropWhile, h.1, ih h.2]
    have h2 : w.reverse.dropWhile digit = [] := h1 _ (by rw [List.all_eq_true] at h ⊢; intro x hx; exact h x (by simpa using hx))
    rw [h2]
    simp

theorem valFrom_lt : ∀ (w : Str) (a k : Nat) (_ : w.all digit = true) (_ : a < 10 ^ k), valFrom a w < 10 ^ (k + w.length)
  | [], a, k, _, ha => by
    rw [valFrom_nil, List.length_nil, Nat.add_zero]
    exact ha
  | c :: r, a, k, h, ha => by
    simp only [List.all_cons, Bool.and_eq_true] at h
    have hd : c.toNat - 48 < 10 := by
      have := h.1; simp [digit] at this; omega
    have h1 : shiftIn a c < 10 ^ (k + 1) := by
      unfold shiftIn
      generalize hp : 10 ^ k = p at ha
      rw [Nat.pow_succ, hp]
      omega
    have := valFrom_lt r (shiftIn a c) (k + 1) h.2 h1
    rw [valFrom_cons, List.length_cons, show k + (r.length + 1) = k + 1 + r.length by omega]
    exact this
theorem valFrom_ge : ∀ (w : Str) (a : Nat), a ≤ valFrom a w
  | [], a => Nat.le_refl _
  | c :: r, a => by
    have := valFrom_ge r (shiftIn a c)
    rw [valFrom_cons]
    unfold shiftIn at this ⊢
    omega
theorem parseUintM_ok (M : Nat) (w : Str) (a : Nat) (h : w.all digit = true) (hM : valFrom a w ≤ M) (h10 : valFrom a w < 10000000000000000000) : Lib.parseUintM M a w = .ok (valFrom a w) := by
  induction w generalizing a with
  | nil => rfl
  | cons c r ih =>
    simp only [List.all_cons, Bool.and_eq_true] at h
    have hd := h.1
    simp [digit] at hd
    rw [valFrom_cons] at hM h10 ⊢
    have hg := valFrom_ge r (shiftIn a c)
    have hs : shiftIn a c = 10 * a + (c.toNat - 48) := rfl
    have f1 : ¬ 1844674407370955162 ≤ a := by omega
    have f2 : ¬ M < a * 10 + (c.toNat - 48) := by omega
    have f3 : a * 10 = 10 * a := Nat.mul_comm _ _
    unfold Lib.parseUintM
    rw [if_pos hd, if_neg f1, if_neg f2, f3, ← hs]
    exact ih _ h.2 hM h10
theorem val_lt (w : Str) (h : w.all digit = true) (k : Nat) (hk : w.length ≤ k) : val w < 10 ^ k := by
  have := valFrom_lt w 0 0 h (by simp)
  have h2 : 10 ^ (0 + w.length) ≤ 10 ^ k := Nat.pow_le_pow_right (by omega) (by omega)
  exact Nat.lt_of_lt_of_le this h2
theorem number_parse (w : Str) (h1 : 1 ≤ w.length) (h2 : w.length ≤ 19) (h : w.all digit = true) : Lib.parseUintB 64 w = .ok (val w) := by
  unfold Lib.parseUintB
  rw [if_neg (by intro e; rw [e] at h1; simp at h1)]
  have := val_lt w h 19 h2
  exact parseUintM_ok _ w 0 h (by unfold val at this; omega) (by unfold val at this; omega)
theorem parseUintM_range (M : Nat) (w : Str) (a : Nat) (h : w.all digit = true) (hM : M < valFrom a w) (ha : a ≤ M) (h10 : valFrom a w < 10000000000000000000) : Lib.parseUintM M a w = .range := by
  induction w generalizing a with
  | nil => rw [valFrom_nil] at hM; omega
  | cons c r ih =>
    simp only [List.all_cons, Bool.and_eq_true] at h
    have hd := h.1
    simp [digit] at hd
    rw [valFrom_cons] at hM h10
    have hg := valFrom_ge r (shiftIn a c)
    have hs : shiftIn a c = 10 * a + (c.toNat - 48) := rfl
    have f1 : ¬ 1844674407370955162 ≤ a := by omega
    have f3 : a * 10 = 10 * a := Nat.mul_comm _ _
    unfold Lib.parseUintM
    rw [if_pos hd, if_neg f1, f3, ← hs]
    split
    · rfl
    · rename_i f2
      exact ih _ h.2 hM (Nat.le_of_not_lt f2) h10
/-- A number's digits, an int64's way. -/
theorem parseInt_pos (c : UInt8) (d : Str) (h2 : (c :: d).length ≤ 19) (h : (c :: d).all digit = true) :
    Lib.parseIntB 64 (c :: d) = if 9223372036854775807 < val (c :: d) then .range else .ok (val (c :: d) : Int) := by
  have hd : digit c = true := by simp only [List.all_cons, Bool.and_eq_true] at h; exact h.1
  simp [digit] at hd
  unfold Lib.parseIntB
  simp only
  rw [if_neg (by omega), number_parse (c :: d) (by simp) h2 h]
  simp only
  have h45 : ¬ c.toNat = 45 := by omega
  simp only [h45, not_false_eq_true, true_and, false_and, if_false]
  have e : (2 : Nat) ^ (64 - 1) = 9223372036854775808 := rfl
  rw [e]
  by_cases hv : 9223372036854775807 < val (c :: d)
  · rw [if_pos (by omega), if_pos hv]
  · rw [if_neg (by omega), if_neg hv]
theorem parseInt_neg (d : Str) (h1 : 1 ≤ d.length) (h2 : d.length ≤ 19) (h : d.all digit = true) :
    Lib.parseIntB 64 (45 :: d) = if 9223372036854775808 < val d then .range else .ok (-(val d : Int)) := by
  unfold Lib.parseIntB
  simp only
  rw [if_pos (by right; rfl), number_parse d h1 h2 h]
  simp only
  have h45 : (45 : UInt8).toNat = 45 := rfl
  simp only [h45, not_true_eq_false, true_and, false_and, if_false, if_true]
theorem parseUint10_ok (w : Str) (a : Nat) (h : w.all digit = true) (h10 : valFrom a w < 1000000000) : Lib.parseUint10 a w = .ok (valFrom a w) := by
  induction w generalizing a with
  | nil => rfl
  | cons c r ih =>
    simp only [List.all_cons, Bool.and_eq_true] at h
    have hd := h.1
    simp [digit] at hd
    rw [valFrom_cons] at h10 ⊢
    have hg := valFrom_ge r (shiftIn a c)
    have hs : shiftIn a c = 10 * a + (c.toNat - 48) := rfl
    have f1 : ¬ 1844674407370955162 ≤ a := by omega
    have f2 : ¬ 18446744073709551616 ≤ a * 10 + (c.toNat - 48) := by omega
    have f3 : a * 10 = 10 * a := Nat.mul_comm _ _
    unfold Lib.parseUint10
    rw [if_pos hd, if_neg f1, if_neg f2, f3, ← hs]
    exact ih _ h.2 h10
/-- Nine digits, Atoi's way. -/
theorem atoi_nine (w : Str) (h1 : 1 ≤ w.length) (h2 : w.length ≤ 9) (h : w.all digit = true) : Lib.atoiAll w = .ok (val w : Int) := by
  have hv := val_lt w h 9 h2
  cases w with
  | nil => simp at h1
  | cons c r =>
    have hd : digit c = true := by simp only [List.all_cons, Bool.and_eq_true] at h; exact h.1
    simp [digit] at hd
    have hm : Lib.parseMag (c :: r) = .ok (val (c :: r)) := by
      unfold Lib.parseMag
      rw [if_neg (by simp)]
      exact parseUint10_ok _ _ h (by unfold val at hv; omega)
    unfold Lib.atoiAll
    simp only
    rw [if_neg (by omega), hm]
    have h45 : ¬ c.toNat = 45 := by omega
    simp only [h45, not_false_eq_true, true_and, false_and, if_false]
    rw [if_neg (by omega)]
end Rem
