/- Walk: remontoirref02.Digits. -/
import Derived.Test.YtdlieanhdbbhiaaGreatDoorGlob
import Derived.Deep.RegionHeld3
import Derived.Deep.RegionWith
import Derived.Deep.DeepCutAuto
import Derived.Laws.Runes
import Derived.Lib.ItoaLen
set_option linter.unusedVariables false
set_option linter.unusedSimpArgs false
namespace Go.Proofs.YtdlieanhdbbhiaaGreatDoor
open Go.RowKit

def DigitsPost (n : Nat) (w : World) (e : Ending) (w' : World) : Prop :=
  e = .returned (.string ⟨(Lib.decDigits n).toArray⟩) ∧ Below w.heap.size w w'

theorem conv_at (W : World) (b : Nat) (z : Int) (c : UInt8) (hz : z = (c.toNat : Int)) (h : W.cell? ⟨b, 0, none⟩ = some (.int .u8 z)) :
    Sem.run Tryz.prog (convert 41 9 (.slice (some ⟨b, 0, none⟩) 1 1)) W = .ok (.string ⟨#[c]⟩) W :=
  run_convert_bytes_back (P := Tryz.prog) W 41 9 5 ⟨b, 0, none⟩ 1 [c] Tryz.underlying41 Tryz.underlying5 Tryz.underlying9 (fun j hj => by
    simp at hj
    subst hj
    show W.cell? ⟨b, 0, none⟩ = _
    rw [h, hz]
    rfl)
theorem conv_one (z : Int) (c : UInt8) (hz : z = (c.toNat : Int)) (W : World) :
    Sem.run Tryz.prog (convert 41 9 (.slice (some ⟨W.heap.size, 0, none⟩) 1 1)) (W.alloc (.cells #[.int .u8 z] 5)) = .ok (.string ⟨#[c]⟩) (W.alloc (.cells #[.int .u8 z] 5)) :=
  conv_at _ _ z c hz (World.cell?_alloc_at (w := W) _ _ _ _ rfl)
theorem conv_drew (z : Int) (c : UInt8) (hz : z = (c.toNat : Int)) (W : World) :
    Sem.run Tryz.prog (convert 41 9 (.slice (some ⟨W.heap.size, 0, none⟩) 1 1)) (W.alloc (.cells #[.int .u8 z] 5)).drew = .ok (.string ⟨#[c]⟩) (W.alloc (.cells #[.int .u8 z] 5)).drew :=
  conv_at _ _ z c hz (World.cell?_alloc_at (w := W) _ _ _ _ rfl)
theorem conv_later {W W1 : World} (z : Int) (c : UInt8) (hz : z = (c.toNat : Int)) (hb : Below (W.alloc (.cells #[.int .u8 z] 5)).drew.heap.size (W.alloc (.cells #[.int .u8 z] 5)).drew W1) :
    Sem.run Tryz.prog (convert 41 9 (.slice (some ⟨W.heap.size, 0, none⟩) 1 1)) W1 = .ok (.string ⟨#[c]⟩) W1 :=
  conv_at _ _ z c hz (by
    rw [hb.cell (p := ⟨W.heap.size, 0, none⟩) (by show W.heap.size < (W.heap.push _).size; simp)]
    exact World.cell?_alloc_at (w := W) _ _ _ _ rfl)
theorem wrap_u64 (z : Int) (h0 : 0 ≤ z) (h1 : z < 18446744073709551616) : IntKind.u64.wrap z = z := by
  simp [IntKind.wrap, IntKind.bits, IntKind.signed]
  omega
theorem wrap_u8 (z : Int) (h0 : 0 ≤ z) (h1 : z < 256) : IntKind.u8.wrap z = z := by
  simp [IntKind.wrap, IntKind.bits, IntKind.signed]
  omega
theorem digit_byte (n : Nat) (h : n < 10) : (48 : Int) + n = ((UInt8.ofNat (48 + n)).toNat : Int) := by
  have : (UInt8.ofNat (48 + n)).toNat = 48 + n := by simp; omega
  rw [this]; omega
theorem below_drew (B : Nat) (w : World) : Below B w w.drew := ⟨rfl, rfl, rfl, Nat.le_refl _, fun _ _ => rfl⟩
theorem str_push (l : List UInt8) (c : UInt8) : (⟨l.toArray⟩ : ByteArray) ++ ⟨#[c]⟩ = ⟨(l ++ [c]).toArray⟩ := by
  apply ByteArray.ext
  simp

set_option maxRecDepth 1000000 in
set_option maxHeartbeats 800000 in
theorem digits_small (n : Nat) (hn : (n : Int) < 10) (w : World) :
    Calls Tryz.prog 9 #[.int .u64 n] w (DigitsPost n w) := by
  have hcv := conv_one _ _ (digit_byte n (by omega))
  have hd : Lib.decDigits n = [UInt8.ofNat (48 + n)] := by rw [Lib.decDigits, dif_pos (by omega)]
  have Hd := Kept.mk hd
  generalize UInt8.ofNat (48 + n) = c at hcv hd Hd
  clear hd
  go_enter Tryz.func9, Tryz.ntmps9
  go_wp2_with fail
  go_ret
  exact ⟨by rw [Hd.out]; rfl, (Below.refl _ _).alloc (Nat.le_refl _) _⟩

set_option maxRecDepth 1000000 in
set_option maxHeartbeats 800000 in
theorem digits_big (n : Nat) (hn : ¬ (n : Int) < 10) (h64 : (n : Int) < 18446744073709551616) (hlen : (Lib.decDigits (n / 10)).length ≤ 30) (w : World)
    (ih : ∀ W, Calls Tryz.prog 9 #[.int .u64 ((n : Int) / 10)] W (DigitsPost (n / 10) W)) :
    Calls Tryz.prog 9 #[.int .u64 n] w (DigitsPost n w) := by
  have hz : (48 : Int) + (n : Int) % 10 = ((UInt8.ofNat (48 + n % 10)).toNat : Int) := by
    have := digit_byte (n % 10) (by omega)
    omega
  have hd : Lib.decDigits n = Lib.decDigits (n / 10) ++ [UInt8.ofNat (48 + n % 10)] := by rw [Lib.decDigits, dif_neg (by omega)]
  have Hd := Kept.mk hd
  generalize UInt8.ofNat (48 + n % 10) = c at hz hd Hd
  generalize hm : Lib.decDigits (n / 10) = d at Hd hlen
  clear hd
  have e1 : IntKind.u64.wrap ((n : Int) / 10) = (n : Int) / 10 := wrap_u64 _ (by omega) (by omega)
  have e2 : (n : Int).tmod 10 = (n : Int) % 10 := Int.tmod_eq_emod_of_nonneg (by omega)
  have e3 : IntKind.u64.wrap (48 + (n : Int) % 10) = 48 + (n : Int) % 10 := wrap_u64 _ (by omega) (by omega)
  have e4 : IntKind.u8.wrap (48 + (n : Int) % 10) = 48 + (n : Int) % 10 := wrap_u8 _ (by omega) (by omega)
  have hcv := conv_one _ c hz
  have hcv2 := conv_drew _ c hz
  have Ih : ∀ W, Calls Tryz.prog 9 #[.int .u64 ((n : Int) / 10)] W fun e w' => e = .returned (.string ⟨d.toArray⟩) ∧ Below W.heap.size W w' := fun W => (ih W).mono fun e w' ⟨h1, h2⟩ => ⟨by rw [h1, hm], h2⟩
  have Hz := Kept.mk hz
  have hadd := str_push d c
  have hl2 : ¬ (9223372036854775807 < d.length + 1) := by omega
  have hstr : ∀ W : World, Sem.run Tryz.prog (Op.stringOp .add ⟨d.toArray⟩ ⟨#[c]⟩) W = .ok (.string ⟨(d ++ [c]).toArray⟩) W := fun W => by
    rw [run_string_add_sum W _ _ (by rw [size_mk]; show d.length + 1 ≤ _; omega), str_push]
  clear ih hm hz
  go_enter Tryz.func9, Tryz.ntmps9
  go_wp2_with fail
  go_region_with (first | (go_at_call 9; refine (Ih _).mono ?_; rintro e w1 ⟨rfl, hb1⟩; first | (with_reducible have hcv5 := conv_later _ c Hz.out hb1) | skip))
  all_goals go_wp2_with fail
  · go_ret
    exact ⟨by rw [Hd.out]; rfl, ((below_drew _ _).trans hb1).alloc hb1.size _⟩
  · go_ret
    exact ⟨by rw [Hd.out]; rfl, ((Below.refl _ w).alloc (Nat.le_refl _) _).trans ((below_drew _ _).trans (hb1.mono (by show w.heap.size ≤ (w.heap.push _).size; simp)))⟩
  · go_ret
    exact ⟨by rw [Hd.out]; rfl, ((Below.refl _ w).alloc (Nat.le_refl _) _).trans ((below_drew _ _).trans (hb1.mono (by show w.heap.size ≤ (w.heap.push _).size; simp)))⟩

theorem dec_len (m : Nat) (h : m < 9223372036854775808) : (Lib.decDigits m).length ≤ 30 := by
  have h1 := Lib.itoa_length_le (m : Int) (by omega) (by omega)
  unfold Lib.itoa at h1
  rw [if_neg (by omega)] at h1
  simp at h1
  omega

theorem digits_any (n : Nat) (h64 : n < 18446744073709551616) (w : World) :
    Calls Tryz.prog 9 #[.int .u64 n] w (DigitsPost n w) := by
  induction n using Nat.strongRecOn generalizing w with
  | ind n ih =>
    by_cases hn : n < 10
    · exact digits_small n (by omega) w
    · refine digits_big n (by omega) (by omega) (dec_len _ (by omega)) w (fun W => ?_)
      have := ih (n / 10) (by omega) (by omega) W
      simpa using this
end Go.Proofs.YtdlieanhdbbhiaaGreatDoor
