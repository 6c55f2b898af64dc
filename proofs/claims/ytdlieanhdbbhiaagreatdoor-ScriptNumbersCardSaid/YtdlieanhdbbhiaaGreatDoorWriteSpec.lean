/- What script.write says, as plain lists of bytes. -/
import Derived.Test.YtdlieanhdbbhiaaGreatDoorSpec
import Derived.Lib.ItoaMem
import Derived.Lib.ItoaLen
import Derived.Lib.Bytealg
import Derived.Lib.Join
import Derived.Laws.Cover4
set_option linter.unusedVariables false
set_option linter.unusedSimpArgs false
namespace Rem

/-- the word of a kind -/
def wordOf (k : Int) : Str :=
  if k = 1 then [100, 101, 112, 108, 111, 121]
  else if k = 2 then [98, 101, 103, 105, 110]
  else if k = 3 then [116, 105, 99, 107]
  else if k = 4 then [102, 101, 116, 99, 104]
  else if k = 5 then [99, 111, 109, 112, 108, 101, 116, 101]
  else if k = 6 then [103, 105, 118, 101, 117, 112]
  else if k = 7 then [108, 111, 111, 107]
  else []
/-- a variable's letter, as string(rune('a' + n)) writes it -/
def nameText (n : Int) : Str := (Go.Utf8.encode (Go.IntKind.i32.wrap (Go.IntKind.i64.wrap (97 + n)))).data.toList
def setText (x : Int × Int) : Str := (nameText x.1 ++ [61]) ++ Go.Lib.itoa x.2
def argsOf (o : Op) : List Str :=
  if o.kind = 1 then [Go.Lib.itoa (Go.Lib.countByte o.text 10)]
  else if o.kind = 3 then [Go.Lib.decDigits o.n]
  else if o.kind = 4 then []
  else Go.Lib.itoa o.id :: o.sets.map setText
def tailOf (o : Op) : Str := if o.kind = 1 then o.text else []
/-- script.write -/
def writeText (o : Op) : Str := (Go.Lib.join (wordOf o.kind :: argsOf o) [32] ++ [10]) ++ tailOf o

theorem kindOf_word {w : Str} (h : kindOf w ≠ 0) : wordOf (kindOf w) = w := by
  unfold kindOf at h ⊢
  by_cases h1 : w = [100, 101, 112, 108, 111, 121]
  · rw [if_pos h1, h1]; rfl
  rw [if_neg h1] at h ⊢
  by_cases h2 : w = [98, 101, 103, 105, 110]
  · rw [if_pos h2, h2]; rfl
  rw [if_neg h2] at h ⊢
  by_cases h3 : w = [116, 105, 99, 107]
  · rw [if_pos h3, h3]; rfl
  rw [if_neg h3] at h ⊢
  by_cases h4 : w = [102, 101, 116, 99, 104]
  · rw [if_pos h4, h4]; rfl
  rw [if_neg h4] at h ⊢
  by_cases h5 : w = [99, 111, 109, 112, 108, 101, 116, 101]
  · rw [if_pos h5, h5]; rfl
  rw [if_neg h5] at h ⊢
  by_cases h6 : w = [103, 105, 118, 101, 117, 112]
  · rw [if_pos h6, h6]; rfl
  rw [if_neg h6] at h ⊢
  by_cases h7 : w = [108, 111, 111, 107]
  · rw [if_pos h7, h7]; rfl
  rw [if_neg h7] at h
  exact absurd rfl h
theorem word_kindOf {k : Int} (h : wordOf k ≠ []) : kindOf (wordOf k) = k := by
  unfold wordOf at h ⊢
  by_cases h1 : k = 1
  · rw [if_pos h1, h1]; rfl
  rw [if_neg h1] at h ⊢
  by_cases h2 : k = 2
  · rw [if_pos h2, h2]; rfl
  rw [if_neg h2] at h ⊢
  by_cases h3 : k = 3
  · rw [if_pos h3, h3]; rfl
  rw [if_neg h3] at h ⊢
  by_cases h4 : k = 4
  · rw [if_pos h4, h4]; rfl
  rw [if_neg h4] at h ⊢
  by_cases h5 : k = 5
  · rw [if_pos h5, h5]; rfl
  rw [if_neg h5] at h ⊢
  by_cases h6 : k = 6
  · rw [if_pos h6, h6]; rfl
  rw [if_neg h6] at h ⊢
  by_cases h7 : k = 7
  · rw [if_pos h7, h7]; rfl
  rw [if_neg h7] at h
  exact absurd rfl h
theorem word_len (k : Int) : (wordOf k).length ≤ 8 := by
  unfold wordOf
  repeat' split
  all_goals decide
theorem name_len (n : Int) : (nameText n).length ≤ 4 := by
  have := Go.encode_size_le (Go.IntKind.i32.wrap (Go.IntKind.i64.wrap (97 + n)))
  unfold nameText
  rw [Array.length_toList]
  exact this
theorem set_len {x : Int × Int} (h0 : -9223372036854775808 ≤ x.2) (h1 : x.2 ≤ 9223372036854775807) : (setText x).length ≤ 30 := by
  have := name_len x.1
  have := Go.Lib.itoa_length_le x.2 h0 h1
  unfold setText
  rw [List.length_append, List.length_append, List.length_singleton]; omega
end Rem
