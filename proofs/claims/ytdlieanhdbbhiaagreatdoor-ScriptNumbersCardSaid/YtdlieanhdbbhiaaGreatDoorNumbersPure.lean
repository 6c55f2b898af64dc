/- The plain law of ScriptNumbers: what is read of its texts. No program in sight. -/
import Derived.Test.YtdlieanhdbbhiaaGreatDoorRound
set_option linter.unusedVariables false
set_option linter.unusedSimpArgs false
namespace Rem
open Go.Lib (decDigits itoa nDigits)

theorem parse_bad {t : Str} (h : ∀ c ∈ t, c.toNat ≠ 10) (hl : line t = none) : parse (t ++ [10]) = .inr 1 := by
  have hc := cut10_app t [] h
  have ho : one (t ++ 10 :: []) = none := one_none_line hc hl
  rw [parse_rest, rest_bad (acc := []) (by simp) ho]
theorem parse_tick {n : Nat} (h : n ≤ 4611686018427387904) : parse (([116, 105, 99, 107, 32] ++ decDigits n) ++ [10]) = .inl [⟨3, 0, n, [], []⟩] := by
  have hok : opOk ⟨3, 0, n, [], []⟩ := .inr ⟨fun e => absurd (show (3 : Int) = 1 from e) (by decide), rfl, .inr (.inr (.inl ⟨rfl, rfl, rfl, h⟩))⟩
  have := parse_one.2 hok
  have e : writeText ⟨3, 0, n, [], []⟩ = ([116, 105, 99, 107, 32] ++ decDigits n) ++ [10] := by
    unfold writeText argsOf tailOf
    simp only [if_pos, if_neg (show ¬ (3 : Int) = 1 by decide)]
    rw [join_two, Go.Lib.join_one]
    simp [wordOf]
  rwa [e] at this
theorem dec_no10 (n : Nat) : ∀ c ∈ decDigits n, c.toNat ≠ 10 := fun c hc => by
  have := digit_ge (List.all_eq_true.1 (dec_digit n) c hc)
  omega
theorem line_tick (a : Str) (h : isWord a = true) (hn : ∀ n, number a = some n → 4611686018427387904 < n) : line ([116, 105, 99, 107, 32] ++ a) = none := by
  have hs : split ([116, 105, 99, 107, 32] ++ a) = some [[116, 105, 99, 107], a] := by
    have := split_join [116, 105, 99, 107] [a] (by
      intro w hw
      simp at hw
      rcases hw with rfl | rfl
      · decide
      · exact h)
    rw [join_two, Go.Lib.join_one] at this
    exact this
  unfold line
  rw [hs]
  have e : kindOf [116, 105, 99, 107] = 3 := by decide
  simp only [e]
  cases hw : number a with
  | none => simp
  | some n =>
    have := hn n hw
    simp; omega
theorem parse_tick_big {n : Nat} (h : 4611686018427387904 < n) : parse (([116, 105, 99, 107, 32] ++ decDigits n) ++ [10]) = .inr 1 := by
  refine parse_bad ?_ (line_tick _ (dec_word n) ?_)
  · intro c hc
    rcases List.mem_append.1 hc with hc | hc
    · simp at hc; rcases hc with rfl | rfl | rfl | rfl | rfl <;> decide
    · exact dec_no10 n c hc
  · intro m hm
    by_cases hb : n < 10000000000000000000
    · rw [number_dec hb] at hm; cases hm; exact h
    · rw [number_big (by omega)] at hm; cases hm

/-- "complete 3 " and a set -/
theorem parse_complete {x : Int × Int} (h : setOk x) : parse (([99, 111, 109, 112, 108, 101, 116, 101, 32, 51, 32] ++ setText x) ++ [10]) = .inl [⟨5, 3, 0, [], [x]⟩] := by
  have hok : opOk ⟨5, 3, 0, [], [x]⟩ := .inr ⟨fun e => absurd (show (5 : Int) = 1 from e) (by decide), rfl, .inr (.inl ⟨.inr rfl, (by decide : (0 : Int) ≤ 3), (by decide : (3 : Int) ≤ 999999999), rfl, by simpa using h⟩)⟩
  have := parse_one.2 hok
  have e : writeText ⟨5, 3, 0, [], [x]⟩ = ([99, 111, 109, 112, 108, 101, 116, 101, 32, 51, 32] ++ setText x) ++ [10] := by
    unfold writeText argsOf tailOf
    simp only [if_neg (show ¬ (5 : Int) = 1 by decide), if_neg (show ¬ (5 : Int) = 3 by decide), if_neg (show ¬ (5 : Int) = 4 by decide)]
    rw [List.map_cons, List.map_nil, join_two, join_two, Go.Lib.join_one]
    have e3 : itoa 3 = [51] := by
      show itoa ((3 : Nat) : Int) = _
      rw [itoa_nat, dec_small (by decide)]
      rfl
    simp [wordOf, e3]
  rwa [e] at this

def badLines (d : Str) : List Str :=
  [[116, 105, 99, 107, 32, 48] ++ d, [116, 105, 99, 107, 32, 45] ++ d, ([116, 105, 99, 107, 32] ++ d) ++ [32], [116, 105, 99, 107],
   [102, 101, 116, 99, 104, 32, 49], [108, 111, 111, 107, 32, 48, 49], [98, 101, 103, 105, 110], [98, 101, 103, 105, 110, 32, 49, 32, 97], [98, 101, 103, 105, 110, 32, 49, 32, 97, 61],
   [98, 101, 103, 105, 110, 32, 49, 32, 97, 61, 45, 48], [98, 101, 103, 105, 110, 32, 49, 32, 65, 61, 49],
   [98, 101, 103, 105, 110, 32, 49, 32, 97, 61, 57, 50, 50, 51, 51, 55, 50, 48, 51, 54, 56, 53, 52, 55, 55, 53, 56, 48, 56],
   [98, 101, 103, 105, 110, 32, 49, 32, 97, 61, 45, 57, 50, 50, 51, 51, 55, 50, 48, 51, 54, 56, 53, 52, 55, 55, 53, 56, 48, 57],
   [99, 111, 109, 112, 108, 101, 116, 101, 32, 49, 32, 32, 97, 61, 49], [103, 105, 118, 101, 117, 112, 32, 49, 32, 97, 61, 49],
   [100, 101, 112, 108, 111, 121, 32, 54, 48, 48, 49], [100, 101, 112, 108, 111, 121, 32, 49], [84, 105, 99, 107, 32, 49], []]
theorem parse_closed (s : Str) (k : Nat) (h : decide (parse s = .inr k) = true) : parse s = .inr k := of_decide_eq_true h
theorem bad_all (n : Nat) : ∀ t ∈ badLines (decDigits n), parse (t ++ [10]) = .inr 1 := by
  obtain ⟨c, r, hc, hd⟩ := dec_head_digit n
  have hall := dec_digit n
  have hw := dec_word n
  simp only [isWord, Bool.and_eq_true] at hw
  have hne : (48 : UInt8).toNat = 48 := rfl
  intro t ht
  simp only [badLines, List.mem_cons, List.not_mem_nil, or_false] at ht
  rcases ht with rfl | rfl | rfl | rfl | rfl | rfl | rfl | rfl | rfl | rfl | rfl | rfl | rfl | rfl | rfl | rfl | rfl | rfl | rfl
  · refine parse_bad ?_ (line_tick (48 :: decDigits n) ?_ ?_)
    · intro x hx
      rcases List.mem_append.1 hx with hx | hx
      · simp at hx; rcases hx with rfl | rfl | rfl | rfl | rfl | rfl <;> decide
      · exact dec_no10 n x hx
    · simp only [isWord, List.isEmpty_cons, Bool.not_false, Bool.true_and, List.all_cons, hw.2, Bool.and_true]; rfl
    · intro m hm
      unfold number digits at hm
      rw [if_neg] at hm
      · cases hm
      · intro hcc
        exact hcc.2.2.1 ⟨rfl, by rw [hc]; simp⟩
  · refine parse_bad ?_ (line_tick (45 :: decDigits n) ?_ ?_)
    · intro x hx
      rcases List.mem_append.1 hx with hx | hx
      · simp at hx; rcases hx with rfl | rfl | rfl | rfl | rfl | rfl <;> decide
      · exact dec_no10 n x hx
    · simp only [isWord, List.isEmpty_cons, Bool.not_false, Bool.true_and, List.all_cons, hw.2, Bool.and_true]; rfl
    · intro m hm
      unfold number digits at hm
      rw [if_neg] at hm
      · cases hm
      · intro hcc
        have := hcc.2.2.2
        simp only [List.all_cons, Bool.and_eq_true] at this
        exact absurd this.1 (by decide)
  · refine parse_bad ?_ ?_
    · intro x hx
      rcases List.mem_append.1 hx with hx | hx
      · rcases List.mem_append.1 hx with hx | hx
        · simp at hx; rcases hx with rfl | rfl | rfl | rfl | rfl <;> decide
        · exact dec_no10 n x hx
      · simp at hx; subst hx; decide
    · have hs : split (([116, 105, 99, 107, 32] ++ decDigits n) ++ [32]) = none := by
        have e : ([116, 105, 99, 107, 32] ++ decDigits n) ++ [32] = [116, 105, 99, 107] ++ 32 :: (decDigits n ++ 32 :: []) := by simp
        unfold split
        rw [e, cut32_app _ _ (by decide), cut32_app _ _ hw.2, if_neg]
        simp [cut32]
      unfold line
      rw [hs]
  all_goals exact parse_closed _ _ (by decide +kernel)

/-- the examples' texts -/
theorem parse_wakes : parse [116, 105, 99, 107, 32, 53, 10, 100, 101, 112, 108, 111, 121, 32, 49, 10, 120, 32, 121, 10, 98, 101, 103, 105, 110, 32, 49, 32, 97, 61, 45, 53, 32, 98, 61, 55, 10] = .inl [⟨3, 0, 5, [], []⟩, ⟨1, 0, 0, [120, 32, 121, 10], []⟩, ⟨2, 1, 0, [], [(0, -5), (1, 7)]⟩] := of_decide_eq_true (by decide +kernel)
theorem parse_wakes2 : parse [116, 105, 99, 107, 32, 53, 10, 108, 111, 111, 107, 32, 120, 10] = .inr 2 := of_decide_eq_true (by decide +kernel)
theorem parse_wakes3 : parse [116, 105, 99, 107, 32, 53, 10, 108, 111, 111, 107, 32, 49, 10] = .inl [⟨3, 0, 5, [], []⟩, ⟨7, 1, 0, [], []⟩] := of_decide_eq_true (by decide +kernel)
end Rem
