/- Plain laws: numbers, sets: what is written is read as it was, and what can be read is written as it was. No program in sight. -/
import Derived.Test.YtdlieanhdbbhiaaGreatDoorParsePure
import Derived.Lib.ItoaMem
import Derived.Lib.Join
set_option linter.unusedVariables false
set_option linter.unusedSimpArgs false
namespace Rem
open Go.Lib (decDigits itoa nDigits)

theorem char_nat (d : Nat) (h : d < 10) : (UInt8.ofNat (48 + d)).toNat = 48 + d := by
  simp; omega
theorem char_digit (d : Nat) (h : d < 10) : digit (UInt8.ofNat (48 + d)) = true := by
  unfold digit
  rw [char_nat d h]
  simp; omega
theorem dec_small {u : Nat} (h : u < 10) : decDigits u = [UInt8.ofNat (48 + u)] := by rw [decDigits, dif_pos h]
theorem dec_big {u : Nat} (h : ¬ u < 10) : decDigits u = decDigits (u / 10) ++ [UInt8.ofNat (48 + u % 10)] := by rw [decDigits, dif_neg h]
theorem dec_digit (u : Nat) : (decDigits u).all digit = true := by
  induction u using Nat.strongRecOn with
  | _ u ih =>
    by_cases h : u < 10
    · rw [dec_small h, List.all_cons, char_digit u h]; rfl
    · rw [dec_big h, List.all_append, ih (u / 10) (by omega), List.all_cons, char_digit (u % 10) (by omega)]; rfl
theorem val_snoc (l : Str) (c : UInt8) : val (l ++ [c]) = 10 * val l + (c.toNat - 48) := by
  unfold val valFrom
  rw [List.foldl_append]
  rfl
theorem dec_val (u : Nat) : val (decDigits u) = u := by
  induction u using Nat.strongRecOn with
  | _ u ih =>
    by_cases h : u < 10
    · rw [dec_small h]
      show val ([] ++ [UInt8.ofNat (48 + u)]) = u
      rw [val_snoc, char_nat u h]
      show 10 * 0 + _ = _
      omega
    · rw [dec_big h, val_snoc, ih (u / 10) (by omega), char_nat _ (by omega)]
      omega
theorem dec_ne (u : Nat) : decDigits u ≠ [] := by
  by_cases h : u < 10
  · rw [dec_small h]; simp
  · rw [dec_big h]; simp
theorem dec_len (u : Nat) : (decDigits u).length = nDigits u := Go.Lib.decDigits_length u
theorem dec_head (u : Nat) (h : (decDigits u).head? = some 48) : u = 0 := by
  induction u using Nat.strongRecOn with
  | _ u ih =>
    by_cases hu : u < 10
    · rw [dec_small hu] at h
      simp only [List.head?_cons, Option.some.injEq] at h
      have := congrArg UInt8.toNat h
      rw [char_nat u hu] at this
      have e : (48 : UInt8).toNat = 48 := rfl
      omega
    · rw [dec_big hu, List.head?_append] at h
      have hne := dec_ne (u / 10)
      cases hc : decDigits (u / 10) with
      | nil => exact absurd hc hne
      | cons a b =>
        have := ih (u / 10) (by omega) (by rw [hc] at h ⊢; simpa using h)
        omega
theorem dec_lead (u : Nat) : ¬ ((decDigits u).head? = some 48 ∧ 1 < (decDigits u).length) := by
  intro ⟨h1, h2⟩
  have := dec_head u h1
  subst this
  rw [dec_small (by omega)] at h2
  simp at h2
theorem pow_le_of_nDigits {k u : Nat} (h : 10 ^ k ≤ u) : k + 1 ≤ nDigits u := by
  have := Go.Lib.lt_pow_nDigits u
  by_cases hk : k + 1 ≤ nDigits u
  · exact hk
  · have : 10 ^ nDigits u ≤ 10 ^ k := Nat.pow_le_pow_right (by decide) (by omega)
    omega
theorem nDigits_le_of_lt (k : Nat) : ∀ u, u < 10 ^ (k + 1) → nDigits u ≤ k + 1 := by
  induction k with
  | zero => intro u h; rw [Go.Lib.nDigits_small (by simpa using h)]; omega
  | succ k ih =>
    intro u h
    by_cases hu : u < 10
    · rw [Go.Lib.nDigits_small hu]; omega
    · rw [Go.Lib.nDigits_big hu]
      have := ih (u / 10) (by rw [Nat.pow_succ] at h; omega)
      omega
theorem digits_dec {most u : Nat} (h : nDigits u ≤ most) : digits most (decDigits u) = some u := by
  unfold digits
  rw [if_pos ⟨by rw [dec_len]; exact Go.Lib.nDigits_pos u, by rw [dec_len]; exact h, dec_lead u, dec_digit u⟩, dec_val]
theorem digits_long {most u : Nat} (h : most < nDigits u) : digits most (decDigits u) = none := by
  unfold digits
  rw [if_neg]
  rw [dec_len]
  omega
theorem number_dec {u : Nat} (h : u < 10000000000000000000) : number (decDigits u) = some u := digits_dec (nDigits_le_of_lt 18 u (by simpa using h))
theorem number_big {u : Nat} (h : 10000000000000000000 ≤ u) : number (decDigits u) = none := digits_long (by have := pow_le_of_nDigits (k := 19) (u := u) (by simpa using h); omega)
theorem wnumber_dec {u : Nat} {m : Int} (h : u < 1000000000) (hm : (u : Int) ≤ m) : wnumber (decDigits u) m = some u := by
  unfold wnumber
  rw [digits_dec (nDigits_le_of_lt 8 u (by simpa using h))]
  simp [hm]

theorem dec_of_val (w : Str) (h : w.all digit = true) (h1 : w ≠ []) (h0 : ¬ (w.head? = some 48 ∧ 1 < w.length)) : decDigits (val w) = w := by
  induction hn : w.length generalizing w with
  | zero => exact absurd (List.eq_nil_of_length_eq_zero hn) h1
  | succ n ih =>
    obtain ⟨r, c, rfl⟩ : ∃ r c, w = r ++ [c] := ⟨w.dropLast, w.getLast h1, (List.dropLast_concat_getLast h1).symm⟩
    rw [List.all_append] at h
    simp only [Bool.and_eq_true, List.all_cons, List.all_nil, Bool.and_true] at h
    obtain ⟨hr, hc⟩ := h
    have hcd : 48 ≤ c.toNat ∧ c.toNat ≤ 57 := by simpa [digit] using hc
    have hchar : UInt8.ofNat (48 + (c.toNat - 48)) = c := by
      rw [show 48 + (c.toNat - 48) = c.toNat by omega]; simp
    rw [val_snoc]
    by_cases hre : r = []
    · subst hre
      rw [dec_small (by show 10 * 0 + _ < _; omega)]
      show [UInt8.ofNat (48 + (10 * 0 + (c.toNat - 48)))] = _
      rw [show 10 * 0 + (c.toNat - 48) = c.toNat - 48 by omega, hchar]; rfl
    · have hlen : 1 ≤ r.length := List.length_pos_iff.2 hre
      have hd : ¬ r.head? = some 48 := by
        intro e
        refine h0 ⟨?_, by simp; omega⟩
        cases r with
        | nil => exact absurd rfl hre
        | cons a b => simpa using e
      have ih2 := ih r hr hre (fun x => hd x.1) (by simp at hn; omega)
      have hv : val r ≠ 0 := by
        intro e
        rw [e, dec_small (by omega)] at ih2
        rw [← ih2] at hd
        exact hd rfl
      rw [dec_big (by omega), show (10 * val r + (c.toNat - 48)) / 10 = val r by omega, show (10 * val r + (c.toNat - 48)) % 10 = c.toNat - 48 by omega, ih2, hchar]
theorem digits_back {most n : Nat} {w : Str} (h : digits most w = some n) : decDigits n = w := by
  unfold digits at h
  split at h
  · rename_i hc
    cases h
    exact dec_of_val w hc.2.2.2 (by intro e; rw [e] at hc; simp at hc) hc.2.2.1
  · cases h
theorem number_back {n : Nat} {w : Str} (h : number w = some n) : decDigits n = w := digits_back h
theorem wnumber_back {n : Nat} {w : Str} {m : Int} (h : wnumber w m = some n) : decDigits n = w := by
  unfold wnumber at h
  split at h
  · rename_i k hk
    split at h
    · cases h; exact digits_back hk
    · cases h
  · cases h

theorem itoa_nat (n : Nat) : itoa (n : Int) = decDigits n := Go.Lib.itoa_nonneg n
theorem itoa_minus (n : Nat) (h : 1 ≤ n) : itoa (-(n : Int)) = 45 :: decDigits n := Go.Lib.itoa_neg n h

theorem dec_head_digit (u : Nat) : ∃ c r, decDigits u = c :: r ∧ digit c = true := by
  have h := dec_digit u
  cases hd : decDigits u with
  | nil => exact absurd hd (dec_ne u)
  | cons c r =>
    rw [hd] at h
    simp only [List.all_cons, Bool.and_eq_true] at h
    exact ⟨c, r, rfl, h.1⟩
theorem digit_ge {c : UInt8} (h : digit c = true) : 48 ≤ c.toNat ∧ c.toNat ≤ 57 := by simpa [digit] using h
theorem whole_itoa {v : Int} (h0 : -9223372036854775808 ≤ v) (h1 : v ≤ 9223372036854775807) : whole (itoa v) = some v := by
  by_cases hv : v < 0
  · obtain ⟨n, rfl⟩ : ∃ n : Nat, v = -(n : Int) := ⟨v.natAbs, by omega⟩
    rw [itoa_minus n (by omega)]
    unfold whole
    simp only
    rw [if_pos (by rfl), number_dec (by omega)]
    simp only
    rw [if_neg (by omega)]
  · obtain ⟨n, rfl⟩ : ∃ n : Nat, v = (n : Int) := ⟨v.toNat, by omega⟩
    rw [itoa_nat]
    obtain ⟨c, r, hc, hd⟩ := dec_head_digit n
    have := digit_ge hd
    have hn := number_dec (u := n) (by omega)
    unfold whole
    rw [hc] at hn ⊢
    simp only
    rw [if_neg (by omega), hn]
    simp only
    rw [if_neg (by omega)]
theorem whole_back {v : Int} {w : Str} (h : whole w = some v) : itoa v = w ∧ -9223372036854775808 ≤ v ∧ v ≤ 9223372036854775807 := by
  unfold whole at h
  split at h
  · rename_i c d
    split at h
    · rename_i hc
      split at h
      · rename_i n hn
        split at h
        · cases h
        · rename_i hb
          cases h
          refine ⟨?_, by omega, by omega⟩
          rw [itoa_minus n (by omega), number_back hn]
          congr 1
          exact (UInt8.toNat_inj.1 (by rw [hc]; rfl)).symm
      · cases h
    · split at h
      · rename_i n hn
        split at h
        · cases h
        · cases h
          refine ⟨?_, by omega, by omega⟩
          rw [itoa_nat, number_back hn]
      · cases h
  · cases h
end Rem
