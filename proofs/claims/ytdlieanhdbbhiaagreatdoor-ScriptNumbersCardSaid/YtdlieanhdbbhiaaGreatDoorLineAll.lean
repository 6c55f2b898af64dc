/- script.line, of every line. -/
import Derived.Test.YtdlieanhdbbhiaaGreatDoorLine
set_option linter.unusedVariables false
set_option linter.unusedSimpArgs false
namespace Go.Proofs.YtdlieanhdbbhiaaGreatDoor
open Go.RowKit

theorem cut32_len (l : Rem.Str) : ∀ x ∈ Rem.cut32 l, x.length ≤ l.length := by
  induction l with
  | nil => intro x hx; simp [Rem.cut32] at hx; simp [hx]
  | cons c r ih =>
    intro x hx
    unfold Rem.cut32 at hx
    split at hx
    · rcases List.mem_cons.1 hx with rfl | h
      · simp
      · have := ih x h; simp; omega
    · split at hx
      · simp at hx; simp [hx]
      · rename_i w ws hw
        rcases List.mem_cons.1 hx with rfl | h
        · have := ih w (by rw [hw]; simp); simp; omega
        · have := ih x (by rw [hw]; simp [h]); simp; omega
theorem cut32_count (l : Rem.Str) : (Rem.cut32 l).length ≤ l.length + 1 := by
  induction l with
  | nil => simp [Rem.cut32]
  | cons c r ih =>
    unfold Rem.cut32
    split
    · simp; omega
    · split
      · simp
      · rename_i w ws hw
        rw [hw] at ih
        simp at ih ⊢; omega
theorem cut32_ne (l : Rem.Str) : Rem.cut32 l ≠ [] := by
  cases l with
  | nil => simp [Rem.cut32]
  | cons c r =>
    unfold Rem.cut32
    split
    · simp
    · split <;> simp

theorem line_split_none {l : Rem.Str} (h : Rem.split l = none) : Rem.line l = none := by
  unfold Rem.line; rw [h]

set_option maxRecDepth 1000000 in
set_option maxHeartbeats 800000 in
theorem line_none (l : Rem.Str) (hsp : Kept (Rem.split l = none)) (w : World) (hs : l.length ≤ 1000000) :
    Calls Tryz.prog 19 #[.string ⟨l.toArray⟩] w (LinePost l w) := by
  go_enter Tryz.func19, Tryz.ntmps19
  go_wp2_with fail
  refine (split_any ⟨l.toArray⟩ _ (by rw [size_mk]; exact hs)).mono ?_
  intro e w1 hp
  unfold SplitPost at hp
  rw [show (⟨l.toArray⟩ : ByteArray).data.toList = l from rfl, hsp.out] at hp
  obtain ⟨rfl, hb1⟩ := hp
  obtain ⟨hc1, hf1⟩ := bcell hb1
  have hB : Below w.heap.size w w1 := ((Below.refl _ w).alloc (Nat.le_refl _) _).trans (hb1.mono (by show w.heap.size ≤ (w.heap.push _).size; simp))
  go_wp2_with fail
  refine bodyPost_ret (v := .tuple #[.agg #[.int .i64 0, .int .i64 0, .int .u64 0, .string ⟨#[]⟩, .slice none 0 0], .bool false]) (by simp [results, Tryz.results19, go_sem, hc1]) rfl ?_
  exact LinePost.no (line_split_none hsp.out) _ _ _ (((((hB.setCell (p := ⟨w.heap.size, 0, none⟩) (Nat.le_refl _) _).setCell (p := ⟨w.heap.size, 1, none⟩) (Nat.le_refl _) _).setCell (p := ⟨w.heap.size, 2, none⟩) (Nat.le_refl _) _).setCell (p := ⟨w.heap.size, 3, none⟩) (Nat.le_refl _) _).setCell (p := ⟨w.heap.size, 4, none⟩) (Nat.le_refl _) _)

/-- script.line, of every line -/
theorem line_any (l : Rem.Str) (w : World) (hG : Glob w) (hs : l.length ≤ 900000) :
    Calls Tryz.prog 19 #[.string ⟨l.toArray⟩] w (LinePost l w) := by
  cases h : Rem.split l with
  | none => exact line_none l ⟨h⟩ w (by omega)
  | some ws =>
    have hws : ws = Rem.cut32 l := by
      unfold Rem.split at h
      split at h
      · cases h; rfl
      · cases h
    cases ws with
    | nil => exact absurd hws.symm (cut32_ne l)
    | cons x r =>
      have hc := cut32_count l
      rw [← hws] at hc
      simp at hc
      exact line_some l x r ⟨h⟩ w ⟨hG⟩ (by omega) ⟨fun y hy => by have := cut32_len l y (by rw [← hws]; exact hy); omega⟩ ⟨by omega⟩
end Go.Proofs.YtdlieanhdbbhiaaGreatDoor
