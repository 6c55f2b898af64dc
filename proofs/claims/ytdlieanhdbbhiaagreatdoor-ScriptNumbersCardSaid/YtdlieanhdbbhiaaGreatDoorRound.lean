/- The plain law of reading and writing: an op's text is read as the op; what is read off a text was its op's text. No program in sight. -/
import Derived.Test.YtdlieanhdbbhiaaGreatDoorWriteSpec
import Derived.Test.YtdlieanhdbbhiaaGreatDoorBackPure
set_option linter.unusedVariables false
set_option linter.unusedSimpArgs false
namespace Rem
open Go.Lib (decDigits itoa nDigits countByte join joinTail join_one join_cons)

/-! ### words -/
/-- a byte of a word -/
def wordByte (c : UInt8) : Bool := decide (33 ≤ c.toNat) && decide (c.toNat ≤ 126)
def isWord (w : Str) : Bool := !w.isEmpty && w.all wordByte

theorem cut32_app (a b : Str) (h : a.all wordByte = true) : cut32 (a ++ 32 :: b) = a :: cut32 b := by
  induction a with
  | nil => simp [cut32]
  | cons c r ih =>
    simp only [List.all_cons, Bool.and_eq_true] at h
    have hc : ¬ c.toNat = 32 := by have := h.1; simp [wordByte] at this; omega
    simp only [List.cons_append, cut32, if_neg hc, ih h.2]
theorem cut32_one (a : Str) (h : a.all wordByte = true) : cut32 a = [a] := by
  induction a with
  | nil => simp [cut32]
  | cons c r ih =>
    simp only [List.all_cons, Bool.and_eq_true] at h
    have hc : ¬ c.toNat = 32 := by have := h.1; simp [wordByte] at this; omega
    simp only [cut32, if_neg hc, ih h.2]
theorem join_two (x y : Str) (r : List Str) : join (x :: y :: r) [32] = x ++ 32 :: join (y :: r) [32] := by
  rw [join_cons, join_cons]
  simp [joinTail]
theorem cut32_join (x : Str) (r : List Str) (h : ∀ w ∈ x :: r, isWord w = true) : cut32 (join (x :: r) [32]) = x :: r := by
  induction r generalizing x with
  | nil =>
    rw [join_one]
    have := h x (by simp)
    simp only [isWord, Bool.and_eq_true] at this
    exact cut32_one x this.2
  | cons y r ih =>
    have := h x (by simp)
    simp only [isWord, Bool.and_eq_true] at this
    rw [join_two, cut32_app x _ this.2, ih y (fun w hw => h w (List.mem_cons_of_mem _ hw))]
theorem wordByte_plain {c : UInt8} (h : wordByte c = true) : plainByte c = true := by
  simp [wordByte] at h
  simp [plainByte]; omega
theorem join_plain (x : Str) (r : List Str) (h : ∀ w ∈ x :: r, isWord w = true) : (join (x :: r) [32]).all plainByte = true := by
  induction r generalizing x with
  | nil =>
    rw [join_one]
    have := h x (by simp)
    simp only [isWord, Bool.and_eq_true] at this
    exact List.all_eq_true.2 fun c hc => wordByte_plain (List.all_eq_true.1 this.2 c hc)
  | cons y r ih =>
    have := h x (by simp)
    simp only [isWord, Bool.and_eq_true] at this
    rw [join_two, List.all_append, List.all_cons, ih y (fun w hw => h w (List.mem_cons_of_mem _ hw))]
    rw [List.all_eq_true.2 fun c hc => wordByte_plain (List.all_eq_true.1 this.2 c hc)]
    rfl
theorem split_join (x : Str) (r : List Str) (h : ∀ w ∈ x :: r, isWord w = true) : split (join (x :: r) [32]) = some (x :: r) := by
  unfold split
  rw [join_plain x r h, cut32_join x r h]
  rw [if_pos]
  rw [Bool.true_and]
  refine List.all_eq_true.2 fun w hw => ?_
  have := h w hw
  simp only [isWord, Bool.and_eq_true] at this
  exact this.1
theorem cut32_ne' (l : Str) : cut32 l ≠ [] := by
  induction l with
  | nil => simp [cut32]
  | cons c r ih =>
    simp only [cut32]
    split
    · simp
    · split <;> simp
theorem join_cut32 (l : Str) : join (cut32 l) [32] = l := by
  induction l with
  | nil => rfl
  | cons c r ih =>
    simp only [cut32]
    have hne := cut32_ne' r
    by_cases hc : c.toNat = 32
    · rw [if_pos hc]
      cases h : cut32 r with
      | nil => exact absurd h hne
      | cons x xs =>
        rw [join_two, ← h, ih]
        have e : c = 32 := UInt8.toNat_inj.1 (by rw [hc]; rfl)
        rw [e]; rfl
    · rw [if_neg hc]
      cases h : cut32 r with
      | nil => exact absurd h hne
      | cons x xs =>
        rw [h] at ih
        show join ((c :: x) :: xs) [32] = _
        rw [join_cons] at ih ⊢
        rw [← ih]; rfl
theorem split_back {l : Str} {ws : List Str} (h : split l = some ws) : join ws [32] = l ∧ ws ≠ [] := by
  unfold split at h
  split at h
  · cases h
    exact ⟨join_cut32 l, cut32_ne' l⟩
  · cases h
theorem split_plain {l : Str} {ws : List Str} (h : split l = some ws) : l.all plainByte = true := by
  unfold split at h
  split at h
  · rename_i hc
    simp only [Bool.and_eq_true] at hc
    exact hc.1
  · cases h

/-! ### numbers and sets are words -/
theorem digit_word {c : UInt8} (h : digit c = true) : wordByte c = true := by
  simp [digit] at h
  simp [wordByte]; omega
theorem dec_word (u : Nat) : isWord (decDigits u) = true := by
  unfold isWord
  have h1 := dec_ne u
  have h2 := dec_digit u
  have h3 : (decDigits u).isEmpty = false := by cases h : decDigits u with
    | nil => exact absurd h h1
    | cons a b => rfl
  rw [h3]
  simp only [Bool.not_false, Bool.true_and]
  exact List.all_eq_true.2 fun c hc => digit_word (List.all_eq_true.1 h2 c hc)
theorem itoa_word (n : Int) : isWord (itoa n) = true := by
  by_cases h : n < 0
  · obtain ⟨k, rfl⟩ : ∃ k : Nat, n = -(k : Int) := ⟨n.natAbs, by omega⟩
    rw [itoa_minus k (by omega)]
    have := dec_word k
    simp only [isWord, Bool.and_eq_true] at this
    simp only [isWord, List.isEmpty_cons, Bool.not_false, Bool.true_and, List.all_cons, this.2, Bool.and_true]
    rfl
  · obtain ⟨k, rfl⟩ : ∃ k : Nat, n = (k : Int) := ⟨n.toNat, by omega⟩
    rw [itoa_nat]
    exact dec_word k
theorem word_word {k : Int} (h : wordOf k ≠ []) : isWord (wordOf k) = true := by
  unfold wordOf at h ⊢
  repeat' split
  all_goals first | decide | (simp_all; done)

def setOk (x : Int × Int) : Prop := 0 ≤ x.1 ∧ x.1 ≤ 25 ∧ -9223372036854775808 ≤ x.2 ∧ x.2 ≤ 9223372036854775807
theorem name_ok {n : Int} (h0 : 0 ≤ n) (h1 : n ≤ 25) : nameText n = [UInt8.ofNat (97 + n.toNat)] := by
  obtain ⟨k, rfl⟩ : ∃ k : Nat, n = (k : Int) := ⟨n.toNat, by omega⟩
  have hk : k < 26 := by omega
  have all : ∀ k : Fin 26, nameText ((k.val : Nat) : Int) = [UInt8.ofNat (97 + ((k.val : Nat) : Int).toNat)] := by decide +kernel
  exact all ⟨k, hk⟩
theorem letter_nat {k : Nat} (h : k < 26) : (UInt8.ofNat (97 + k)).toNat = 97 + k := by
  simp; omega
theorem setText_ok {x : Int × Int} (h : setOk x) : setText x = UInt8.ofNat (97 + x.1.toNat) :: 61 :: itoa x.2 := by
  unfold setText
  rw [name_ok h.1 h.2.1]
  rfl
theorem set_text {x : Int × Int} (h : setOk x) : set (setText x) = some x := by
  rw [setText_ok h]
  obtain ⟨h0, h1, h2, h3⟩ := h
  have hl := letter_nat (k := x.1.toNat) (by omega)
  unfold set
  simp only
  rw [if_pos ⟨by omega, by omega, by rfl⟩, whole_itoa h2 h3, hl]
  simp only [Option.map_some, Option.some.injEq]
  exact Prod.ext (by simp; omega) rfl
theorem set_word {x : Int × Int} (h : setOk x) : isWord (setText x) = true := by
  rw [setText_ok h]
  have hw := itoa_word x.2
  have hl := letter_nat (k := x.1.toNat) (by have := h.1; have := h.2.1; omega)
  simp only [isWord, Bool.and_eq_true] at hw
  have hb : wordByte (UInt8.ofNat (97 + x.1.toNat)) = true := by
    unfold wordByte
    rw [hl]
    have := h.1; have := h.2.1
    simp; omega
  simp only [isWord, List.isEmpty_cons, Bool.not_false, Bool.true_and, List.all_cons, hb, hw.2, Bool.and_true]
  rfl
theorem set_back {w : Str} {x : Int × Int} (h : set w = some x) : setOk x ∧ setText x = w := by
  unfold set at h
  split at h
  · rename_i a e v
    split at h
    · rename_i hc
      simp only [Option.map_eq_some_iff] at h
      obtain ⟨n, hn, rfl⟩ := h
      obtain ⟨w1, w2, w3⟩ := whole_back hn
      have ok : setOk (((a.toNat - 97 : Nat) : Int), n) := ⟨by simp, by simp; omega, w2, w3⟩
      refine ⟨ok, ?_⟩
      rw [setText_ok ok]
      simp only
      rw [w1, show 97 + ((a.toNat - 97 : Nat) : Int).toNat = a.toNat by omega]
      simp only [UInt8.ofNat_toNat]
      congr 2
      exact (UInt8.toNat_inj.1 (by rw [hc.2.2]; rfl)).symm
    · cases h
  · cases h
theorem sets_text (l : List (Int × Int)) (h : ∀ x ∈ l, setOk x) : sets (l.map setText) = some l := by
  induction l with
  | nil => rfl
  | cons x r ih =>
    simp only [List.map_cons, sets, set_text (h x (by simp)), ih (fun y hy => h y (List.mem_cons_of_mem _ hy))]
theorem sets_back (ws : List Str) (l : List (Int × Int)) (h : sets ws = some l) : (∀ x ∈ l, setOk x) ∧ l.map setText = ws := by
  induction ws generalizing l with
  | nil => simp only [sets, Option.some.injEq] at h; subst h; simp
  | cons w r ih =>
    simp only [sets] at h
    split at h
    · rename_i x t hx ht
      cases h
      obtain ⟨a, b⟩ := set_back hx
      obtain ⟨c, d⟩ := ih t ht
      refine ⟨fun y hy => ?_, by simp [b, d]⟩
      rcases List.mem_cons.1 hy with rfl | hy
      · exact a
      · exact c y hy
    · cases h

/-! ### lines -/
/-- what a line's op can be: of a deploy n is how many lines it has -/
def lineOk (o : Op) : Prop := o.text = [] ∧
  ((o.kind = 1 ∧ o.id = 0 ∧ o.sets = [] ∧ o.n ≤ 6000) ∨
   ((o.kind = 2 ∨ o.kind = 5) ∧ 0 ≤ o.id ∧ o.id ≤ 999999999 ∧ o.n = 0 ∧ ∀ x ∈ o.sets, setOk x) ∨
   (o.kind = 3 ∧ o.id = 0 ∧ o.sets = [] ∧ o.n ≤ 4611686018427387904) ∨
   (o.kind = 4 ∧ o.id = 0 ∧ o.sets = [] ∧ o.n = 0) ∨
   ((o.kind = 6 ∨ o.kind = 7) ∧ 0 ≤ o.id ∧ o.id ≤ 999999999 ∧ o.n = 0 ∧ o.sets = []))
def lineArgs (o : Op) : List Str :=
  if o.kind = 1 ∨ o.kind = 3 then [decDigits o.n]
  else if o.kind = 4 then []
  else itoa o.id :: o.sets.map setText
def lineText (o : Op) : Str := join (wordOf o.kind :: lineArgs o) [32]

theorem line_text {o : Op} (h : lineOk o) : line (lineText o) = some o := by
  obtain ⟨k, i, n, t, s⟩ := o
  obtain ⟨ht, h⟩ := h
  simp only at ht h
  subst ht
  unfold line lineText lineArgs
  rcases h with ⟨rfl, rfl, rfl, hn⟩ | ⟨hk, h0, h1, rfl, hs⟩ | ⟨rfl, rfl, rfl, hn⟩ | ⟨rfl, rfl, rfl, rfl⟩ | ⟨hk, h0, h1, rfl, rfl⟩
  · rw [split_join _ _ (by
      intro w hw
      simp at hw
      rcases hw with rfl | rfl
      · exact word_word (by decide)
      · exact dec_word _)]
    have e : kindOf (wordOf 1) = 1 := by decide
    have hw : wnumber (decDigits n) 6000 = some n := wnumber_dec (by omega) (by omega)
    simp [e, hw]
  · obtain ⟨u, rfl⟩ : ∃ u : Nat, i = (u : Int) := ⟨i.toNat, by omega⟩
    have hk1 : ¬ (k = 1 ∨ k = 3) := by omega
    have hk4 : ¬ k = 4 := by omega
    have hne : wordOf k ≠ [] := by rcases hk with rfl | rfl <;> decide
    rw [if_neg hk1, if_neg hk4]
    rw [split_join _ _ (by
      intro w hw
      simp only [List.mem_cons, List.mem_map] at hw
      rcases hw with rfl | rfl | ⟨x, hx, rfl⟩
      · exact word_word hne
      · exact itoa_word _
      · exact set_word (hs x hx))]
    have e : kindOf (wordOf k) = k := word_kindOf hne
    have hw : wnumber (itoa (u : Int)) 999999999 = some u := by rw [itoa_nat]; exact wnumber_dec (by omega) (by omega)
    dsimp only
    rw [e, if_neg (by omega), if_neg hk4, if_neg (by omega), if_neg (by omega), hw]
    dsimp only
    rw [if_pos hk, sets_text s hs]
    rfl
  · rw [split_join _ _ (by
      intro w hw
      simp at hw
      rcases hw with rfl | rfl
      · exact word_word (by decide)
      · exact dec_word _)]
    have e : kindOf (wordOf 3) = 3 := by decide
    have hw : number (decDigits n) = some n := number_dec (by omega)
    simp [e, hw, hn]
  · decide
  · obtain ⟨u, rfl⟩ : ∃ u : Nat, i = (u : Int) := ⟨i.toNat, by omega⟩
    have hk1 : ¬ (k = 1 ∨ k = 3) := by omega
    have hk4 : ¬ k = 4 := by omega
    have hne : wordOf k ≠ [] := by rcases hk with rfl | rfl <;> decide
    rw [if_neg hk1, if_neg hk4]
    rw [split_join _ _ (by
      intro w hw
      simp only [List.mem_cons, List.map_nil, List.not_mem_nil, or_false] at hw
      rcases hw with rfl | rfl
      · exact word_word hne
      · exact itoa_word _)]
    have e : kindOf (wordOf k) = k := word_kindOf hne
    have hw : wnumber (itoa (u : Int)) 999999999 = some u := by rw [itoa_nat]; exact wnumber_dec (by omega) (by omega)
    dsimp only
    rw [e, if_neg (by omega), if_neg hk4, if_neg (by omega), if_neg (by omega), hw]
    dsimp only
    rw [if_neg (by omega)]
    simp

theorem line_back {l : Str} {o : Op} (h : line l = some o) : lineOk o ∧ lineText o = l := by
  unfold line at h
  split at h
  · cases h
  · cases h
  · rename_i w r hs
    obtain ⟨hj, _⟩ := split_back hs
    have hk := kind_range w
    dsimp only at h
    split at h
    · cases h
    rename_i hk0
    have hword : wordOf (kindOf w) = w := kindOf_word hk0
    generalize hkk : kindOf w = k at *
    split at h
    · split at h
      · rename_i hk4 hr
        cases h
        subst hr
        refine ⟨⟨rfl, .inr (.inr (.inr (.inl ⟨rfl, rfl, rfl, rfl⟩)))⟩, ?_⟩
        unfold lineText lineArgs
        rw [← hj, ← hword, hk4]
        rfl
      · cases h
    rename_i hk4
    split at h
    · cases h
    rename_i a t
    split at h
    · rename_i hk3
      split at h
      · rename_i n hn
        split at h
        · rename_i hc
          cases h
          obtain ⟨hc1, rfl⟩ := hc
          refine ⟨⟨rfl, .inr (.inr (.inl ⟨rfl, rfl, rfl, hc1⟩))⟩, ?_⟩
          unfold lineText lineArgs
          rw [← hj, ← hword, hk3]
          simp only [or_true, if_true]
          rw [number_back hn]
        · cases h
      · cases h
    rename_i hk3
    split at h
    · rename_i hk1
      split at h
      · rename_i n hn
        split at h
        · rename_i hr
          cases h
          subst hr
          have := wnumber_most hn
          refine ⟨⟨rfl, .inl ⟨rfl, rfl, rfl, by simp only; omega⟩⟩, ?_⟩
          unfold lineText lineArgs
          rw [← hj, ← hword, hk1]
          simp only [true_or, if_true]
          rw [wnumber_back hn]
        · cases h
      · cases h
    rename_i hk1
    split at h
    · cases h
    rename_i _ n hn
    have hm := wnumber_most hn
    split at h
    · rename_i hk25
      simp only [Option.map_eq_some_iff] at h
      obtain ⟨x, hx, rfl⟩ := h
      obtain ⟨a1, a2⟩ := sets_back _ _ hx
      refine ⟨⟨rfl, .inr (.inl ⟨hk25, by simp, by simp; omega, rfl, a1⟩)⟩, ?_⟩
      unfold lineText lineArgs
      simp only
      rw [if_neg (by omega), if_neg (by omega), itoa_nat, wnumber_back hn, a2, hword, ← hj]
    · rename_i hk25
      split at h
      · rename_i hr
        cases h
        subst hr
        refine ⟨⟨rfl, .inr (.inr (.inr (.inr ⟨by simp only; omega, by simp, by simp; omega, rfl, rfl⟩)))⟩, ?_⟩
        unfold lineText lineArgs
        simp only
        rw [if_neg (by omega), if_neg (by omega), itoa_nat, wnumber_back hn, hword, ← hj]
        rfl
      · cases h

/-! ### ops -/
theorem cut10_app (a b : Str) (h : ∀ c ∈ a, c.toNat ≠ 10) : cut10 (a ++ 10 :: b) = some (a, b) := by
  induction a with
  | nil => simp [cut10]
  | cons c r ih =>
    have hc := h c (by simp)
    simp only [List.cons_append, cut10, if_neg hc, ih (fun x hx => h x (List.mem_cons_of_mem _ hx))]
    rfl
theorem cut10_back {s a b : Str} (h : cut10 s = some (a, b)) : s = a ++ 10 :: b ∧ ∀ c ∈ a, c.toNat ≠ 10 := by
  induction s generalizing a b with
  | nil => simp [cut10] at h
  | cons c r ih =>
    simp only [cut10] at h
    split at h
    · rename_i hc
      simp only [Option.some.injEq, Prod.mk.injEq] at h
      obtain ⟨rfl, rfl⟩ := h
      refine ⟨?_, by simp⟩
      show c :: r = 10 :: r
      congr 1
      exact UInt8.toNat_inj.1 (by rw [hc]; rfl)
    · rename_i hc
      simp only [Option.map_eq_some_iff] at h
      obtain ⟨⟨x, y⟩, hx, he⟩ := h
      simp only [Prod.mk.injEq] at he
      obtain ⟨rfl, rfl⟩ := he
      obtain ⟨h1, h2⟩ := ih hx
      refine ⟨by rw [h1]; rfl, fun z hz => ?_⟩
      rcases List.mem_cons.1 hz with rfl | hz
      · exact hc
      · exact h2 z hz
theorem count_app (a b : Str) : countByte (a ++ b) 10 = countByte a 10 + countByte b 10 := by simp [countByte]
theorem count_none (a : Str) (h : ∀ c ∈ a, c.toNat ≠ 10) : countByte a 10 = 0 := by
  unfold countByte
  rw [List.count_eq_zero]
  intro hm
  exact h 10 hm rfl
/-- a text of whole lines -/
def ended (t : Str) : Prop := t = [] ∨ t.getLast? = some 10
theorem lines_back {n : Nat} {s a b : Str} (h : lines n s = some (a, b)) : s = a ++ b ∧ countByte a 10 = n ∧ ended a := by
  induction n generalizing s a b with
  | zero =>
    simp only [lines, Option.some.injEq, Prod.mk.injEq] at h
    obtain ⟨rfl, rfl⟩ := h
    exact ⟨rfl, rfl, .inl rfl⟩
  | succ n ih =>
    simp only [lines] at h
    split at h
    · cases h
    · rename_i x y hc
      obtain ⟨hs, hx⟩ := cut10_back hc
      simp only [Option.map_eq_some_iff] at h
      obtain ⟨⟨u, v⟩, hu, he⟩ := h
      simp only [Prod.mk.injEq] at he
      obtain ⟨rfl, rfl⟩ := he
      obtain ⟨i1, i2, i3⟩ := ih hu
      refine ⟨by rw [hs, i1]; simp, ?_, .inr ?_⟩
      · rw [count_app, count_none x hx]
        have : countByte (10 :: u) 10 = countByte u 10 + 1 := by simp [countByte]
        omega
      · rcases i3 with rfl | h10
        · simp
        · rw [List.getLast?_append, List.getLast?_cons, h10]
          simp
theorem lines_text (t : Str) (h : ended t) (b : Str) : lines (countByte t 10) (t ++ b) = some (t, b) := by
  induction hn : countByte t 10 generalizing t with
  | zero =>
    rcases h with rfl | h
    · rfl
    · exfalso
      have : (10 : UInt8) ∈ t := List.mem_of_getLast? h
      unfold countByte at hn
      rw [List.count_eq_zero] at hn
      exact hn this
  | succ n ih =>
    have hm : (10 : UInt8) ∈ t := by
      unfold countByte at hn
      exact List.count_pos_iff.1 (by omega)
    obtain ⟨x, y, rfl, hx⟩ : ∃ x y, t = x ++ 10 :: y ∧ ∀ c ∈ x, c.toNat ≠ 10 := by
      clear ih hn h b
      induction t with
      | nil => simp at hm
      | cons c r ih =>
        by_cases hc : c = 10
        · exact ⟨[], r, by rw [hc]; rfl, by simp⟩
        · obtain ⟨x, y, h1, h2⟩ := ih (by
            rcases List.mem_cons.1 hm with h | h
            · exact absurd h.symm hc
            · exact h)
          refine ⟨c :: x, y, by rw [h1]; rfl, fun z hz => ?_⟩
          rcases List.mem_cons.1 hz with rfl | hz
          · intro e; exact hc (UInt8.toNat_inj.1 (by rw [e]; rfl))
          · exact h2 z hz
    have hy : countByte y 10 = n := by
      rw [count_app, count_none x hx] at hn
      have : countByte (10 :: y) 10 = countByte y 10 + 1 := by simp [countByte]
      omega
    have hend : ended y := by
      rcases h with h | h
      · simp at h
      · rw [List.getLast?_append, List.getLast?_cons] at h
        cases hl : y.getLast? with
        | none => exact .inl (List.getLast?_eq_none_iff.1 hl)
        | some z =>
          rw [hl] at h
          simp at h
          subst h
          exact .inr hl
    have hx2 : (x ++ 10 :: y) ++ b = x ++ 10 :: (y ++ b) := by simp
    rw [hx2]
    simp only [lines, cut10_app x _ hx, ih y hend hy]
    rfl

/-- an op that has a text -/
def opOk (o : Op) : Prop :=
  (o.kind = 1 ∧ o.id = 0 ∧ o.sets = [] ∧ o.n = 0 ∧ ended o.text ∧ countByte o.text 10 ≤ 6000) ∨
  (o.kind ≠ 1 ∧ lineOk o)
/-- the line of an op -/
def headOf (o : Op) : Op := if o.kind = 1 then { o with text := [], n := countByte o.text 10 } else o
theorem head_ok {o : Op} (h : opOk o) : lineOk (headOf o) := by
  unfold headOf
  rcases h with ⟨hk, h0, hs, hn, he, hc⟩ | ⟨hk, h⟩
  · rw [if_pos hk]
    exact ⟨rfl, .inl ⟨hk, h0, hs, hc⟩⟩
  · rw [if_neg hk]; exact h
theorem write_head (o : Op) : writeText o = (lineText (headOf o) ++ [10]) ++ tailOf o := by
  unfold writeText lineText headOf argsOf lineArgs
  by_cases h1 : o.kind = 1
  · simp only [if_pos h1]
    rw [h1]
    simp only [true_or, if_true]
    rw [itoa_nat]
  · simp only [if_neg h1]
    by_cases h3 : o.kind = 3
    · simp [h3]
    · have h13 : ¬ (o.kind = 1 ∨ o.kind = 3) := by omega
      simp only [if_neg h3, if_neg h13]
theorem lineText_plain {o : Op} (h : lineOk o) : ∀ c ∈ lineText o, c.toNat ≠ 10 := by
  intro c hc
  have hl := line_text h
  have hs : ∃ ws, split (lineText o) = some ws := by
    unfold line at hl
    split at hl
    · cases hl
    · cases hl
    · rename_i hs; exact ⟨_, hs⟩
  obtain ⟨ws, hs⟩ := hs
  have := List.all_eq_true.1 (split_plain hs) c hc
  simp [plainByte] at this
  omega
theorem one_text {o : Op} (h : opOk o) (s : Str) : ∃ k, one (writeText o ++ s) = some (o, s, k) := by
  have hh := head_ok h
  have hl := line_text hh
  have hp := lineText_plain hh
  rw [write_head]
  have e : ((lineText (headOf o) ++ [10]) ++ tailOf o) ++ s = lineText (headOf o) ++ 10 :: (tailOf o ++ s) := by simp
  rw [e]
  have hc := cut10_app _ (tailOf o ++ s) hp
  rcases h with ⟨hk, h0, hs, hn, he, hcn⟩ | ⟨hk, h⟩
  · have ht : tailOf o = o.text := by unfold tailOf; rw [if_pos hk]
    have hk' : (headOf o).kind = 1 := by unfold headOf; rw [if_pos hk]; exact hk
    have hn' : (headOf o).n = countByte o.text 10 := by unfold headOf; rw [if_pos hk]
    have hx : lines (headOf o).n (tailOf o ++ s) = some (o.text, s) := by rw [ht, hn']; exact lines_text o.text he s
    refine ⟨(headOf o).n + 1, ?_⟩
    rw [one_deploy hc hl hk' hx]
    have : ({ headOf o with text := o.text, n := 0 } : Op) = o := by
      unfold headOf
      rw [if_pos hk]
      obtain ⟨a, b, c, d, f⟩ := o
      simp only at hn
      subst hn
      rfl
    rw [this]
  · have ht : tailOf o = [] := by unfold tailOf; rw [if_neg hk]
    have ho : headOf o = o := by unfold headOf; rw [if_neg hk]
    rw [ho] at hc hl ⊢
    refine ⟨1, ?_⟩
    rw [one_plain hc hl hk, ht]
    rfl
theorem one_back {s r : Str} {o : Op} {k : Nat} (h : one s = some (o, r, k)) : opOk o ∧ s = writeText o ++ r := by
  unfold one at h
  split at h
  · cases h
  · rename_i t rest hc
    obtain ⟨hs, ht⟩ := cut10_back hc
    split at h
    · cases h
    · rename_i op hl
      obtain ⟨hok, htx⟩ := line_back hl
      split at h
      · rename_i hk
        split at h
        · cases h
        · rename_i x y hx
          obtain ⟨i1, i2, i3⟩ := lines_back hx
          simp only [Option.some.injEq, Prod.mk.injEq] at h
          obtain ⟨rfl, rfl, rfl⟩ := h
          obtain ⟨q0, q⟩ := hok
          rcases q with ⟨_, a2, a3, a4⟩ | ⟨q, _⟩ | ⟨q, _⟩ | ⟨q, _⟩ | ⟨q, _⟩
          · have ok : opOk { op with text := x, n := 0 } := .inl ⟨hk, a2, a3, rfl, i3, by simp only; omega⟩
            refine ⟨ok, ?_⟩
            rw [write_head]
            have hh : headOf { op with text := x, n := 0 } = op := by
              unfold headOf
              simp only [if_pos hk]
              obtain ⟨a, b, c, d, f⟩ := op
              simp only at i2 q0
              subst q0
              simp [i2]
            have hta : tailOf { op with text := x, n := 0 } = x := by unfold tailOf; simp only [if_pos hk]
            rw [hh, hta, htx, hs, i1]
            simp
          all_goals omega
      · rename_i hk
        simp only [Option.some.injEq, Prod.mk.injEq] at h
        obtain ⟨rfl, rfl, rfl⟩ := h
        have hh : headOf op = op := by unfold headOf; rw [if_neg hk]
        have hta : tailOf op = [] := by unfold tailOf; rw [if_neg hk]
        refine ⟨.inr ⟨hk, hok⟩, ?_⟩
        rw [write_head, hh, hta, htx, hs]
        simp
theorem write_ne (o : Op) : writeText o ≠ [] := by
  unfold writeText
  simp

/-! ### texts -/
def writeAll : List Op → Str
  | [] => []
  | o :: l => writeText o ++ writeAll l
theorem parseFrom_text (l : List Op) (h : ∀ o ∈ l, opOk o) : ∀ (f at_ : Nat), (writeAll l).length < f → parseFrom f at_ (writeAll l) = .inl l := by
  induction l with
  | nil =>
    intro f at_ hf
    cases f with
    | zero => omega
    | succ f => rfl
  | cons o l ih =>
    intro f at_ hf
    cases f with
    | zero => omega
    | succ f =>
      obtain ⟨k, hk⟩ := one_text (h o (by simp)) (writeAll l)
      have hne := write_ne o
      have hlen : (writeText o).length ≠ 0 := by simpa using hne
      simp only [writeAll] at hf ⊢
      cases hs : writeText o ++ writeAll l with
      | nil => simp [hne] at hs
      | cons c r =>
        unfold parseFrom
        rw [hs] at hk
        simp only [hk]
        rw [ih (fun x hx => h x (List.mem_cons_of_mem _ hx)) f (at_ + k) (by simp at hf; omega)]
theorem parse_text (l : List Op) (h : ∀ o ∈ l, opOk o) : parse (writeAll l) = .inl l := parseFrom_text l h _ _ (by omega)
theorem parseFrom_back : ∀ (f at_ : Nat) (s : Str) (l : List Op), parseFrom f at_ s = .inl l → (∀ o ∈ l, opOk o) ∧ writeAll l = s := by
  intro f
  induction f with
  | zero => intro at_ s l h; simp [parseFrom] at h
  | succ f ih =>
    intro at_ s l h
    unfold parseFrom at h
    split at h
    · cases h; exact ⟨by simp, rfl⟩
    · split at h
      · cases h
      · rename_i o r k ho
        split at h
        · rename_i t ht
          cases h
          obtain ⟨h1, h2⟩ := one_back ho
          obtain ⟨i1, i2⟩ := ih _ _ _ ht
          refine ⟨fun x hx => ?_, by simp only [writeAll]; rw [i2, ← h2]⟩
          rcases List.mem_cons.1 hx with rfl | hx
          · exact h1
          · exact i1 x hx
        · cases h
theorem parse_back {s : Str} {l : List Op} (h : parse s = .inl l) : (∀ o ∈ l, opOk o) ∧ writeAll l = s := parseFrom_back _ _ _ _ h
/-- an op has a text that is read as the op alone: just if it may be -/
theorem parse_one {o : Op} : parse (writeText o) = .inl [o] ↔ opOk o := by
  constructor
  · intro h; exact (parse_back h).1 o (by simp)
  · intro h
    have := parse_text [o] (by simpa using h)
    simpa [writeAll] using this
end Rem
