/- Walks: script.number, words.Number. -/
import Derived.Test.YtdlieanhdbbhiaaGreatDoorGlob
import Derived.Outline
import Derived.BigQuiet
import Derived.Deep.QuietTactic
import Derived.WalkSpells
import Derived.WalkLawsBesides
set_option linter.unusedVariables false
set_option linter.unusedSimpArgs false
namespace Go.Proofs.YtdlieanhdbbhiaaGreatDoor
open Go.RowKit

theorem trim_any (l : Rem.Str) (w : World) (hs : l.length < 4294967281) :
    Calls Tryz.prog 52 #[.string ⟨l.toArray⟩, .string ⟨#[48, 49, 50, 51, 52, 53, 54, 55, 56, 57]⟩] w fun e w' => e = .returned (.string ⟨(Lib.trimS l [48, 49, 50, 51, 52, 53, 54, 55, 56, 57]).toArray⟩) ∧ Below w.heap.size w w' :=
  Any.strings_Trim_laid Tryz.lays160 (by kernel_rfl) ⟨l.toArray⟩ ⟨#[48, 49, 50, 51, 52, 53, 54, 55, 56, 57]⟩ w (by rw [size_mk]; omega) (by decide) (ascii_of_all (by decide))
theorem trim_good (l : Rem.Str) (h : l.all Rem.digit = true) (w : World) (hs : l.length < 4294967281) :
    Calls Tryz.prog 52 #[.string ⟨l.toArray⟩, .string ⟨#[48, 49, 50, 51, 52, 53, 54, 55, 56, 57]⟩] w fun e w' => e = .returned (.string ⟨#[]⟩) ∧ Below w.heap.size w w' :=
  (trim_any l w hs).mono fun e w' ⟨he, hw⟩ => ⟨by rw [he, (Rem.all_digit_trim l).2 h], hw⟩
theorem trim_bad (l : Rem.Str) (h : l.all Rem.digit = false) (w : World) (hs : l.length < 4294967281) :
    Calls Tryz.prog 52 #[.string ⟨l.toArray⟩, .string ⟨#[48, 49, 50, 51, 52, 53, 54, 55, 56, 57]⟩] w fun e w' => (∃ c r, e = .returned (.string ⟨(c :: r).toArray⟩)) ∧ Below w.heap.size w w' :=
  (trim_any l w hs).mono fun e w' ⟨he, hw⟩ => by
    refine ⟨?_, hw⟩
    cases ht : Lib.trimS l [48, 49, 50, 51, 52, 53, 54, 55, 56, 57] with
    | nil => rw [(Rem.all_digit_trim l).1 ht] at h; cases h
    | cons c r => exact ⟨c, r, by rw [he, ht]⟩
theorem parseUint_good (l : Rem.Str) (h1 : 1 ≤ l.length) (h2 : l.length ≤ 19) (h : l.all Rem.digit = true) (w : World) :
    Calls Tryz.prog 53 #[.string ⟨l.toArray⟩, .int .i64 10, .int .i64 64] w fun e w' => e = .returned (.tuple #[.int .u64 (Rem.val l), .nilIface]) ∧ Below w.heap.size w w' :=
  (Tryz.strconv_ParseUint_10_at64_ok ⟨l.toArray⟩ (by rw [size_mk]; omega) (Rem.val l) (Rem.number_parse l h1 h2 h) w).mono fun e w' ⟨he, hw⟩ =>
    ⟨he, by rcases hw with rfl | rfl
            · exact Below.refl _ _
            · exact bytesWorld_below _ _ _⟩
theorem atoi_good (l : Rem.Str) (h1 : 1 ≤ l.length) (h2 : l.length ≤ 9) (h : l.all Rem.digit = true) (w : World) :
    Calls Tryz.prog 55 #[.string ⟨l.toArray⟩] w fun e w' => e = .returned (.tuple #[.int .i64 (Rem.val l), .nilIface]) ∧ Below w.heap.size w w' :=
  (Tryz.strconv_Atoi_ok ⟨l.toArray⟩ (by rw [size_mk]; omega) (Rem.val l) (Rem.atoi_nine l h1 h2 h) w).mono fun e w' ⟨he, hw⟩ =>
    ⟨he, by rcases hw with rfl | ⟨t, rfl⟩
            · exact Below.refl _ _
            · exact bytesWorld_below _ _ _⟩

set_option maxRecDepth 1000000 in
set_option maxHeartbeats 400000 in
theorem number_one (c : UInt8) (hd : [c].all Rem.digit = true) (w : World) :
    Calls Tryz.prog 33 #[.string ⟨[c].toArray⟩] w fun e w' => e = .returned (.tuple #[.int .u64 (Rem.val [c]), .bool true]) ∧ Below w.heap.size w w' := by
  have Hd := Kept.mk hd
  clear hd
  go_enter Tryz.func33, Tryz.ntmps33
  go_wp2_with fail
  all_goals
    refine (trim_good ([c]) Hd.out _ (by simp)).mono ?_
    rintro e w1 ⟨rfl, hb1⟩
    go_wp2_with fail
    refine (parseUint_good ([c]) (by simp) (by simp) Hd.out _).mono ?_
    rintro e w2 ⟨rfl, hb2⟩
    go_wp2_with fail
    go_quiet (fail)
    go_wp2
    go_ret2
    exact ⟨rfl, below_drewN (below_next hb1 hb1.size hb2) _⟩

set_option maxRecDepth 1000000 in
set_option maxHeartbeats 400000 in
theorem number_more (c : UInt8) (r : Rem.Str) (h19 : r.length ≤ 18) (hc : ((c.toNat : Int) == 48) = false) (hd : (c :: r).all Rem.digit = true) (w : World) :
    Calls Tryz.prog 33 #[.string ⟨(c :: r).toArray⟩] w fun e w' => e = .returned (.tuple #[.int .u64 (Rem.val (c :: r)), .bool true]) ∧ Below w.heap.size w w' := by
  have Hd := Kept.mk hd
  have hix : ∀ h, (⟨(c :: r).toArray⟩ : ByteArray)[0]'h = c := fun _ => rfl
  clear hd
  go_enter Tryz.func33, Tryz.ntmps33
  go_wp2_with fail
  refine (trim_good (c :: r) Hd.out _ (by simp; try omega)).mono ?_
  rintro e w1 ⟨rfl, hb1⟩
  go_wp2_with fail
  refine (parseUint_good (c :: r) (by simp) (by simp; try omega) Hd.out _).mono ?_
  rintro e w2 ⟨rfl, hb2⟩
  go_wp2_with fail
  go_quiet (fail)
  go_wp2
  go_ret2
  exact ⟨rfl, below_drewN (below_next hb1 hb1.size hb2) _⟩


theorem number_good (l : Rem.Str) (n : Nat) (h : Rem.number l = some n) (w : World) :
    Calls Tryz.prog 33 #[.string ⟨l.toArray⟩] w fun e w' => e = .returned (.tuple #[.int .u64 n, .bool true]) ∧ Below w.heap.size w w' := by
  unfold Rem.number Rem.digits at h
  split at h
  · rename_i hc
    obtain ⟨h1, h2, h3, h4⟩ := hc
    cases h
    match l, h1, h2, h3, h4 with
    | [], h1, _, _, _ => simp at h1
    | [c], _, _, _, h4 => exact number_one c h4 w
    | c :: b :: r, _, h2, h3, h4 =>
      refine number_more c (b :: r) (by simp at h2 ⊢; omega) ?_ h4 w
      have : ¬ c = 48 := by intro e; subst e; simp at h3
      rw [beq_eq_false_iff_ne]
      intro e
      exact this (UInt8.toNat_inj.1 (by simpa using (show c.toNat = 48 by omega)))
  · cases h

set_option maxRecDepth 1000000 in
set_option maxHeartbeats 400000 in
theorem number_nil (w : World) :
    Calls Tryz.prog 33 #[.string ⟨#[]⟩] w fun e w' => e = .returned (.tuple #[.int .u64 0, .bool false]) ∧ Below w.heap.size w w' := by
  go_enter Tryz.func33, Tryz.ntmps33
  go_wp2_with fail
  go_ret2
  exact ⟨rfl, Below.refl _ _⟩
set_option maxRecDepth 1000000 in
set_option maxHeartbeats 400000 in
theorem number_long (l : Rem.Str) (h : 19 < l.length) (w : World) (hs : l.length < 4294967281) :
    Calls Tryz.prog 33 #[.string ⟨l.toArray⟩] w fun e w' => e = .returned (.tuple #[.int .u64 0, .bool false]) ∧ Below w.heap.size w w' := by
  have h1 : ¬ ((l.length : Int) < 1) := by omega
  have h2 : (19 : Int) < (l.length : Int) := by omega
  go_enter Tryz.func33, Tryz.ntmps33
  go_wp2_with fail
  go_ret2
  exact ⟨rfl, Below.refl _ _⟩
set_option maxRecDepth 1000000 in
set_option maxHeartbeats 400000 in
theorem number_nought (b : UInt8) (r : Rem.Str) (h : r.length ≤ 17) (w : World) :
    Calls Tryz.prog 33 #[.string ⟨(48 :: b :: r).toArray⟩] w fun e w' => e = .returned (.tuple #[.int .u64 0, .bool false]) ∧ Below w.heap.size w w' := by
  go_enter Tryz.func33, Tryz.ntmps33
  go_wp2_with fail
  go_ret2
  exact ⟨rfl, Below.refl _ _⟩
set_option maxRecDepth 1000000 in
set_option maxHeartbeats 400000 in
theorem number_signs (c : UInt8) (r : Rem.Str) (h : r.length ≤ 18) (hd : (c :: r).all Rem.digit = false) (w : World) :
    Calls Tryz.prog 33 #[.string ⟨(c :: r).toArray⟩] w fun e w' => e = .returned (.tuple #[.int .u64 0, .bool false]) ∧ Below w.heap.size w w' := by
  have Hd := Kept.mk hd
  have hix : ∀ h, (⟨(c :: r).toArray⟩ : ByteArray)[0]'h = c := fun _ => rfl
  clear hd
  go_enter Tryz.func33, Tryz.ntmps33
  go_wp2_with fail
  all_goals first
    | (go_ret2; exact ⟨rfl, Below.refl _ _⟩)
    | (refine (trim_bad (c :: r) Hd.out _ (by simp; omega)).mono ?_
       rintro e w1 ⟨⟨c1, r1, rfl⟩, hb1⟩
       go_wp2_with fail
       go_ret2
       exact ⟨rfl, hb1⟩)

theorem number_bad (l : Rem.Str) (h : Rem.number l = none) (w : World) (hs : l.length < 4294967281) :
    Calls Tryz.prog 33 #[.string ⟨l.toArray⟩] w fun e w' => e = .returned (.tuple #[.int .u64 0, .bool false]) ∧ Below w.heap.size w w' := by
  unfold Rem.number Rem.digits at h
  split at h
  · cases h
  · rename_i hc
    match l, hc, hs with
    | [], _, _ => exact number_nil w
    | c :: r, hc, hs =>
      by_cases h19 : 19 < (c :: r).length
      · exact number_long _ h19 w hs
      · by_cases hd : (c :: r).all Rem.digit = true
        · match r, hc, h19, hd with
          | [], hc, _, hd => exact absurd ⟨by simp, by simp, by simp, hd⟩ hc
          | b :: r, hc, h19, hd =>
            have h48 : c = 48 := by
              refine Classical.byContradiction fun hn => hc ⟨by simp, by omega, ?_, hd⟩
              simp only [List.head?_cons, Option.some.injEq, not_and]
              exact fun e => absurd e hn
            subst h48
            exact number_nought b r (by simp at h19; omega) w
        · exact number_signs c r (by simp at h19; omega) (by simpa using hd) w
end Go.Proofs.YtdlieanhdbbhiaaGreatDoor
