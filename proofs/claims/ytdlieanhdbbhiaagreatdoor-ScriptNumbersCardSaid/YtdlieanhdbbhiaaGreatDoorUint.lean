/- Walk: strconv.FormatUint at base 10, for every uint64. -/
import Derived.Test.YtdlieanhdbbhiaaGreatDoorGlob
import Derived.Lib.Walk
import Derived.Lib.ItoaMem
import Derived.BigCall
import Derived.BigGuard
set_option linter.unusedVariables false
set_option linter.unusedSimpArgs false
namespace Go.Proofs.YtdlieanhdbbhiaaGreatDoor
open Go.RowKit Go.Sort Go.Lib

theorem holds_zero0 (w : World) (T : TypeId) (nd : Nat) (hs : nd ≤ 24) : Holds (fun (b : UInt8) => Value.int .u8 (b.toNat : Int)) (w.alloc (.cells zeros24 T)) w.heap.size 0 (Array.replicate nd (0 : UInt8)) := fun j hj => by
  have hj' : j < nd := by simpa using hj
  refine ⟨?_, World.frozen?_alloc_new _ _ _ _⟩
  rw [World.cell?_alloc_new, zeros24_at _ (by omega), getElem!_pos _ j hj]
  simp
theorem fin0 (w : World) (o : Obj) (dk : Array UInt8) (k : Nat) : ∃ os, (putRow (fun (b : UInt8) => Value.int .u8 (b.toNat : Int)) (w.alloc o) w.heap.size 0 dk).drewN k = grow (w.drewN k) os := by
  rw [alloc_eq_grow]
  obtain ⟨os', _, e⟩ := putRow_grow_new (fun (b : UInt8) => Value.int .u8 (b.toNat : Int)) w #[o] w.heap.size 0 dk (Nat.le_refl _)
  exact ⟨os', by rw [e]; rfl⟩

set_option maxRecDepth 1000000 in
set_option maxHeartbeats 1600000 in
theorem fmt_small (i : Nat) (hi : i < 100) (w : World) :
    Calls Tryz.prog 23 #[.int .u64 i, .int .i64 10] w fun e w' => e = .returned (.string ⟨(decDigits i).toArray⟩) ∧ w' = w := by
  have hi2 : (i : Int) < 100 := by omega
  go_enter Tryz.func23, Tryz.ntmps23
  go_wp2_with fail
  refine (Tryz.internal_strconv_small i hi _).mono ?_
  rintro e w' ⟨rfl, rfl⟩
  go_wp2_with fail
  go_ret
  exact ⟨rfl, rfl⟩

set_option maxRecDepth 1000000 in
set_option maxHeartbeats 1600000 in
theorem fmt_big (u : Nat) (hu : ¬ (u : Int) < 100) (hu64 : u < 18446744073709551616) (w : World) (htab : TabIs Tryz.prog w "internal/strconv.uint64pow10" .u64 pow10Tab) :
    Calls Tryz.prog 23 #[.int .u64 u, .int .i64 10] w fun e w' => e = .returned (.string ⟨(decDigits u).toArray⟩) ∧ ∃ k os, w' = grow (w.drewN k) os := by
  have hu1 : 1 ≤ u := by omega
  have hnd20 : nDigits u ≤ 20 := by have := numDigits_eq u hu1 hu64; split at this <;> omega
  have hal : Tryz.prog.arrayLen 94 = 24 := by kernel_rfl
  have hsl1 : ∀ W, (Instr.sliceAt 94 (.pointer (some ⟨w.heap.size, 0, none⟩)) none (some (.int .i64 (nDigits u : Int))) none).run Tryz.prog W = .ok (.slice (some ⟨w.heap.size, 0, none⟩) (nDigits u) 24) W := fun W => by
    rw [run_sliceAt_array_h W 94 ⟨w.heap.size, 0, none⟩ (by kernel_rfl) .i64 (nDigits u : Int) (by omega) (by rw [hal]; omega)]
    go_simp
  have hH0 := holds_zero0 w 94 (nDigits u) (by omega)
  have hfmt := Tryz.internal_strconv_formatBase10 w.heap.size 0 24 u (Array.replicate (nDigits u) 0) (w.alloc (.cells zeros24 94)) hH0 (by rw [Array.size_replicate]; exact lt_pow_nDigits u) hu64 (by rw [Array.size_replicate]; omega)
  rw [Array.size_replicate] at hfmt
  have HH0 := hid hH0
  clear hH0 hal
  go_enter Tryz.func23, Tryz.ntmps23
  go_wp2_with fail
  refine (Tryz.internal_strconv_numDigits u hu1 hu64 _ (tabIs_alloc htab _)).mono ?_
  rintro e w' ⟨rfl, rfl⟩
  go_wp2_with fail
  refine hfmt.mono ?_
  rintro e w' ⟨rfl, k, v', dk, rfl, hF⟩
  have hcv : (convert 41 9 (.slice (some ⟨w.heap.size, 0, none⟩) (nDigits u) 24)).run Tryz.prog ((putRow (fun (b : UInt8) => Value.int .u8 (b.toNat : Int)) (w.alloc (.cells zeros24 94)) w.heap.size 0 dk).drewN k) = .ok (.string ⟨(decDigits u).toArray⟩) ((putRow (fun (b : UInt8) => Value.int .u8 (b.toNat : Int)) (w.alloc (.cells zeros24 94)) w.heap.size 0 dk).drewN k) := by
    have h := run_convert_bytes_back (P := Tryz.prog) ((putRow (fun (b : UInt8) => Value.int .u8 (b.toNat : Int)) (w.alloc (.cells zeros24 94)) w.heap.size 0 dk).drewN k) 41 9 5 ⟨w.heap.size, 0, none⟩ 24 (decDigits u) Tryz.underlying41 Tryz.underlying5 Tryz.underlying9 (fun j hj => by
      rw [row_is_numeral hF j hj, add_plain, World.cell?_drewN]
      exact cell?_putRow (fun (b : UInt8) => Value.int .u8 (b.toNat : Int)) _ w.heap.size 0 _ dk HH0.out (by rw [hF.size, Array.size_replicate]) j (by rw [hF.size]; rw [decDigits_length] at hj; exact hj))
    rw [decDigits_length] at h
    exact h
  go_wp2
  go_ret
  obtain ⟨os, eo⟩ := fin0 w (.cells zeros24 94) dk k
  exact ⟨rfl, k, os, eo⟩

/-- strconv.FormatUint at base 10 -/
theorem formatUint_any (u : Nat) (hu64 : u < 18446744073709551616) (w : World) (hG : Glob w) :
    Calls Tryz.prog 12 #[.int .u64 u, .int .i64 10] w fun e w' => e = .returned (.string ⟨(decDigits u).toArray⟩) ∧ Below w.heap.size w w' := by
  have htab := hG.pow
  have H : ∀ W, TabIs Tryz.prog W "internal/strconv.uint64pow10" .u64 pow10Tab → Calls Tryz.prog 23 #[.int .u64 u, .int .i64 10] W fun e w' => e = .returned (.string ⟨(decDigits u).toArray⟩) ∧ Below W.heap.size W w' := by
    intro W hW
    by_cases h : u < 100
    · exact (fmt_small u h W).mono fun e w' ⟨h1, h2⟩ => ⟨h1, by rw [h2]; exact Below.refl _ _⟩
    · exact (fmt_big u (by omega) hu64 W hW).mono fun e w' ⟨h1, h2⟩ => ⟨h1, below_growth h2⟩
  have H2 := H w htab
  clear H htab
  go_enter Tryz.func12, Tryz.ntmps12
  go_wp2_with fail
  refine H2.mono ?_
  rintro e w' ⟨rfl, hb⟩
  go_wp2_with fail
  go_ret
  exact ⟨rfl, hb⟩
end Go.Proofs.YtdlieanhdbbhiaaGreatDoor
