/- Walks: words.in, words.Number. -/
import Derived.Test.YtdlieanhdbbhiaaGreatDoorNum
import Derived.Deep.LoopGhost
set_option linter.unusedVariables false
set_option linter.unusedSimpArgs false
namespace Go.Proofs.YtdlieanhdbbhiaaGreatDoor
open Go.RowKit

theorem in_digit (c : UInt8) (w : World) :
    Calls Tryz.prog 54 #[.int .u8 (c.toNat : Int), .int .u8 48, .int .u8 57] w fun e w' => e = .returned (.bool (Rem.digit c)) ∧ w = w' := by
  by_cases h : (48 : Int) ≤ (c.toNat : Int)
  · go_enter Tryz.func54, Tryz.ntmps54
    go_wp2
    go_ret
    refine ⟨?_, rfl⟩
    have h2 : 48 ≤ c.toNat := by omega
    have h3 : decide ((c.toNat : Int) ≤ 57) = decide (c.toNat ≤ 57) := by rw [decide_eq_decide]; omega
    simp [Rem.digit, h2, h3]
  · go_enter Tryz.func54, Tryz.ntmps54
    go_wp2
    go_ret
    refine ⟨?_, rfl⟩
    have h2 : ¬ 48 ≤ c.toNat := by omega
    simp [Rem.digit, h2]

def NumPost (l : Rem.Str) (most : Int) (w : World) (e : Ending) (w' : World) : Prop :=
  e = (if l.all Rem.digit = true ∧ (Rem.val l : Int) ≤ most then .returned (.tuple #[.int .i64 (Rem.val l), .bool true]) else .returned (.tuple #[.int .i64 0, .bool false])) ∧ Below w.heap.size w w'
theorem NumPost.no {l : Rem.Str} {most : Int} {w w' : World} (h : ¬ (l.all Rem.digit = true ∧ (Rem.val l : Int) ≤ most)) (hb : Below w.heap.size w w') : NumPost l most w (.returned (.tuple #[.int .i64 0, .bool false])) w' := by
  unfold NumPost; rw [if_neg h]; exact ⟨rfl, hb⟩
theorem NumPost.yes {l : Rem.Str} {most : Int} {w w' : World} (h : l.all Rem.digit = true) (h2 : (Rem.val l : Int) ≤ most) (hb : Below w.heap.size w w') : NumPost l most w (.returned (.tuple #[.int .i64 (Rem.val l), .bool true])) w' := by
  unfold NumPost; rw [if_pos ⟨h, h2⟩]; exact ⟨rfl, hb⟩

theorem in_48 (w : World) :
    Calls Tryz.prog 54 #[.int .u8 48, .int .u8 48, .int .u8 57] w fun e w' => e = .returned (.bool true) ∧ w = w' := by
  go_enter Tryz.func54, Tryz.ntmps54
  go_wp2
  go_ret
  exact ⟨rfl, rfl⟩
set_option maxRecDepth 1000000 in
set_option maxHeartbeats 400000 in
theorem wnumber_zero (most : Int) (w : World) :
    Calls Tryz.prog 34 #[.string ⟨#[48]⟩, .int .i64 most] w (NumPost [48] most w) := by
  go_enter Tryz.func34, Tryz.ntmps34
  go_wp2
  refine wp_loop_rounds 2 ?_
  rw [rounds_succ]
  go_wp2_with fail
  refine (in_48 _).mono ?_
  rintro e w1 ⟨rfl, rfl⟩
  go_wp2
  rw [rounds_succ]
  go_wp2_with fail
  refine (atoi_good [48] (by simp) (by simp) (by decide) _).mono ?_
  rintro e w2 ⟨rfl, hb2⟩
  have e0 : ((Rem.val [48] : Nat) : Int) = 0 := by decide
  by_cases hm : (Rem.val [48] : Int) ≤ most
  · have Hm := Kept.mk hm
    clear e0
    go_wp2
    go_ret2
    exact NumPost.yes (by decide) Hm.out hb2
  · have Hm := Kept.mk hm
    clear e0
    go_wp2
    go_ret2
    exact NumPost.no (fun h => by have h1 := h.2; have h2 := Hm.out; omega) hb2
set_option maxRecDepth 1000000 in
set_option maxHeartbeats 400000 in
theorem wnumber_one (c : UInt8) (hc : ((c.toNat : Int) == 48) = false) (most : Int) (w : World) :
    Calls Tryz.prog 34 #[.string ⟨[c].toArray⟩, .int .i64 most] w (NumPost [c] most w) := by
  have hix : ∀ h, (⟨#[c]⟩ : ByteArray)[0]'h = c := fun _ => rfl
  go_enter Tryz.func34, Tryz.ntmps34
  go_wp2
  refine wp_loop_rounds 2 ?_
  rw [rounds_succ]
  go_wp2_with fail
  refine (in_digit c _).mono ?_
  rintro e w1 ⟨rfl, rfl⟩
  by_cases hd : Rem.digit c = true
  · have Hd := Kept.mk hd
    go_wp2
    rw [rounds_succ]
    go_wp2_with fail
    refine (atoi_good [c] (by simp) (by simp) (by simpa using Hd.out) _).mono ?_
    rintro e w2 ⟨rfl, hb2⟩
    by_cases hm : (Rem.val [c] : Int) ≤ most
    · have Hm := Kept.mk hm
      go_wp2
      go_ret2
      exact NumPost.yes (by simpa using Hd.out) Hm.out hb2
    · have Hm := Kept.mk hm
      go_wp2
      go_ret2
      exact NumPost.no (fun h => by have h1 := h.2; have h2 := Hm.out; omega) hb2
  · have hdf : Rem.digit c = false := by simpa using hd
    have Hd := Kept.mk hdf
    clear hd
    go_wp2
    go_ret2
    exact NumPost.no (fun h => by have := h.1; simp [Hd.out] at this) (Below.refl _ _)

set_option maxRecDepth 1000000 in
set_option maxHeartbeats 400000 in
theorem wnumber_more (c : UInt8) (r : Rem.Str) (h9 : r.length ≤ 8) (hz : ((c.toNat : Int) == 48) = false) (most : Int) (w : World) :
    Calls Tryz.prog 34 #[.string ⟨(c :: r).toArray⟩, .int .i64 most] w (NumPost (c :: r) most w) := by
  have hix : ∀ h, (⟨(c :: r).toArray⟩ : ByteArray)[0]'h = c := fun _ => rfl
  go_enter Tryz.func34, Tryz.ntmps34
  go_wp2
  clear hix
  go_loop [29] (fun i => ∃ k : Nat, k ≤ r.length + 1 ∧ i = .int .i64 k ∧ Kept (∀ j x, j < k → (c :: r)[j]? = some x → Rem.digit x = true)) (fun i => r.length + 1 - (intOf i).toNat)
  case atStart => exact ⟨0, by omega, rfl, ⟨fun j x h => by omega⟩⟩
  case round =>
    obtain ⟨k, hk, rfl, ⟨hall⟩⟩ := hrel
    have Hall := Kept.mk hall
    clear hall
    by_cases hlt : k < r.length + 1
    · obtain ⟨x, hx⟩ : ∃ x, (c :: r)[k]? = some x := ⟨(c :: r)[k]'(by simpa using hlt), List.getElem?_eq_getElem _⟩
      have hix : ∀ h, (⟨(c :: r).toArray⟩ : ByteArray)[k]'h = x := fun h => by
        have h2 := List.getElem?_eq_some_iff.1 hx
        obtain ⟨h3, h4⟩ := h2
        exact h4
      have Hx := Kept.mk hx
      clear hx
      go_wp2_with fail
      refine (in_digit x _).mono ?_
      rintro e w1 ⟨rfl, rfl⟩
      by_cases hd : Rem.digit x = true
      · have Hd := Kept.mk hd
        go_wp2
        go_round
        case rel =>
          refine ⟨k + 1, by omega, by go_num, ⟨fun j y hj hy => ?_⟩⟩
          by_cases hjk : j = k
          · subst hjk
            rw [Hx.out] at hy
            cases hy
            exact Hd.out
          · exact Hall.out j y (by omega) hy
        case measure => simp [intOf]; omega
      · have hdf : Rem.digit x = false := by simpa using hd
        have Hd := Kept.mk hdf
        clear hd
        go_wp2
        go_ret2
        refine NumPost.no (fun h => ?_) (Below.refl _ _)
        have h1 := List.all_eq_true.1 h.1 x (List.mem_of_getElem? Hx.out)
        rw [Hd.out] at h1
        cases h1
    · have hkn : k = r.length + 1 := by omega
      have Had : Kept ((c :: r).all Rem.digit = true) := ⟨by
        rw [List.all_eq_true]
        intro x hx
        obtain ⟨j, hj, rfl⟩ := List.getElem_of_mem hx
        exact Hall.out j _ (by rw [hkn]; simpa using hj) (List.getElem?_eq_getElem hj)⟩
      subst hkn
      clear Hall
      go_wp2_with fail
      refine (atoi_good (c :: r) (by simp) (by simp; omega) Had.out _).mono ?_
      rintro e w2 ⟨rfl, hb2⟩
      by_cases hm : (Rem.val (c :: r) : Int) ≤ most
      · have Hm := Kept.mk hm
        go_wp2
        go_ret2
        exact NumPost.yes Had.out Hm.out hb2
      · have Hm := Kept.mk hm
        go_wp2
        go_ret2
        exact NumPost.no (fun h => by have h1 := h.2; have h2 := Hm.out; omega) hb2

set_option maxRecDepth 1000000 in
set_option maxHeartbeats 400000 in
theorem wnumber_nil (most : Int) (w : World) :
    Calls Tryz.prog 34 #[.string ⟨#[]⟩, .int .i64 most] w fun e w' => e = .returned (.tuple #[.int .i64 0, .bool false]) ∧ Below w.heap.size w w' := by
  go_enter Tryz.func34, Tryz.ntmps34
  go_wp2
  go_ret2
  exact ⟨rfl, Below.refl _ _⟩
set_option maxRecDepth 1000000 in
set_option maxHeartbeats 400000 in
theorem wnumber_long (l : Rem.Str) (h : 9 < l.length) (most : Int) (w : World) :
    Calls Tryz.prog 34 #[.string ⟨l.toArray⟩, .int .i64 most] w fun e w' => e = .returned (.tuple #[.int .i64 0, .bool false]) ∧ Below w.heap.size w w' := by
  have h1 : ¬ ((l.length : Int) < 1) := by omega
  have h2 : (9 : Int) < (l.length : Int) := by omega
  go_enter Tryz.func34, Tryz.ntmps34
  go_wp2
  go_ret2
  exact ⟨rfl, Below.refl _ _⟩
set_option maxRecDepth 1000000 in
set_option maxHeartbeats 400000 in
theorem wnumber_nought (b : UInt8) (r : Rem.Str) (h : r.length ≤ 7) (most : Int) (w : World) :
    Calls Tryz.prog 34 #[.string ⟨(48 :: b :: r).toArray⟩, .int .i64 most] w fun e w' => e = .returned (.tuple #[.int .i64 0, .bool false]) ∧ Below w.heap.size w w' := by
  go_enter Tryz.func34, Tryz.ntmps34
  go_wp2
  go_ret2
  exact ⟨rfl, Below.refl _ _⟩

/-- words.Number -/
theorem wnumber_good (l : Rem.Str) (most : Int) (n : Nat) (h : Rem.wnumber l most = some n) (w : World) :
    Calls Tryz.prog 34 #[.string ⟨l.toArray⟩, .int .i64 most] w fun e w' => e = .returned (.tuple #[.int .i64 n, .bool true]) ∧ Below w.heap.size w w' := by
  unfold Rem.wnumber Rem.digits at h
  split at h
  · rename_i n' hn
    split at hn
    · rename_i hc
      obtain ⟨h1, h2, h3, h4⟩ := hc
      cases hn
      split at h
      · rename_i hm
        cases h
        have key : Calls Tryz.prog 34 #[.string ⟨l.toArray⟩, .int .i64 most] w (NumPost l most w) := by
          match l, h1, h2, h3 with
          | [], h1, _, _ => simp at h1
          | [c], _, _, _ =>
            by_cases hc : c = 48
            · subst hc; exact wnumber_zero most w
            · refine wnumber_one c ?_ most w
              rw [beq_eq_false_iff_ne]
              intro e
              exact hc (UInt8.toNat_inj.1 (by simpa using (show c.toNat = 48 by omega)))
          | c :: b :: r, _, h2, h3 =>
            refine wnumber_more c (b :: r) (by simp at h2 ⊢; omega) ?_ most w
            have : ¬ c = 48 := by intro e; subst e; simp at h3
            rw [beq_eq_false_iff_ne]
            intro e
            exact this (UInt8.toNat_inj.1 (by simpa using (show c.toNat = 48 by omega)))
        refine key.mono fun e w' hp => ?_
        unfold NumPost at hp
        rw [if_pos ⟨h4, hm⟩] at hp
        exact hp
      · cases h
    · cases hn
  · cases h
theorem wnumber_bad (l : Rem.Str) (most : Int) (h : Rem.wnumber l most = none) (w : World) :
    Calls Tryz.prog 34 #[.string ⟨l.toArray⟩, .int .i64 most] w fun e w' => e = .returned (.tuple #[.int .i64 0, .bool false]) ∧ Below w.heap.size w w' := by
  have fin : ¬ (l.all Rem.digit = true ∧ (Rem.val l : Int) ≤ most) → Calls Tryz.prog 34 #[.string ⟨l.toArray⟩, .int .i64 most] w (NumPost l most w) → Calls Tryz.prog 34 #[.string ⟨l.toArray⟩, .int .i64 most] w fun e w' => e = .returned (.tuple #[.int .i64 0, .bool false]) ∧ Below w.heap.size w w' := fun hn key => by
    refine key.mono fun e w' hp => ?_
    unfold NumPost at hp
    rw [if_neg hn] at hp
    exact hp
  by_cases hl : 1 ≤ l.length ∧ l.length ≤ 9 ∧ ¬ (l.head? = some 48 ∧ 1 < l.length)
  · obtain ⟨h1, h2, h3⟩ := hl
    have hn : ¬ (l.all Rem.digit = true ∧ (Rem.val l : Int) ≤ most) := by
      rintro ⟨ha, hm⟩
      unfold Rem.wnumber Rem.digits at h
      rw [if_pos ⟨h1, h2, h3, ha⟩] at h
      simp only at h
      rw [if_pos hm] at h
      cases h
    refine fin hn ?_
    match l, h1, h2, h3 with
    | [], h1, _, _ => simp at h1
    | [c], _, _, _ =>
      by_cases hc : c = 48
      · subst hc; exact wnumber_zero most w
      · refine wnumber_one c ?_ most w
        rw [beq_eq_false_iff_ne]
        intro e
        exact hc (UInt8.toNat_inj.1 (by simpa using (show c.toNat = 48 by omega)))
    | c :: b :: r, _, h2, h3 =>
      refine wnumber_more c (b :: r) (by simp at h2 ⊢; omega) ?_ most w
      have : ¬ c = 48 := by intro e; subst e; simp at h3
      rw [beq_eq_false_iff_ne]
      intro e
      exact this (UInt8.toNat_inj.1 (by simpa using (show c.toNat = 48 by omega)))
  · match l, hl with
    | [], _ => exact wnumber_nil most w
    | c :: r, hl =>
      by_cases h9 : 9 < (c :: r).length
      · exact wnumber_long _ h9 most w
      · match r, hl, h9 with
        | [], hl, _ => exact absurd ⟨by simp, by simp, by simp⟩ hl
        | b :: r, hl, h9 =>
          have h48 : c = 48 := by
            refine Classical.byContradiction fun hn => hl ⟨by simp, by omega, ?_⟩
            simp only [List.head?_cons, Option.some.injEq, not_and]
            exact fun e => absurd e hn
          subst h48
          exact wnumber_nought b r (by simp at h9; omega) most w
end Go.Proofs.YtdlieanhdbbhiaaGreatDoor
