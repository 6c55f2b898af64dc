/- Walk: script.cut. -/
import Derived.Test.YtdlieanhdbbhiaaGreatDoorGlob
import Derived.OwnWalk
import Derived.Outline
import Derived.Deep.LoopGhost
set_option linter.unusedVariables false
set_option linter.unusedSimpArgs false
namespace Go.Proofs.YtdlieanhdbbhiaaGreatDoor
open Go.RowKit

/-- strings.IndexByte at the line's end -/
theorem index10_some {s a b : Rem.Str} (h : Rem.cut10 s = some (a, b)) : Lib.indexByte s (10 : UInt8) = (a.length : Int) ∧ s = a ++ 10 :: b := by
  induction s generalizing a b with
  | nil => simp [Rem.cut10] at h
  | cons c r ih =>
    unfold Rem.cut10 at h
    split at h
    · rename_i hc
      simp at h
      obtain ⟨rfl, rfl⟩ := h
      have hc2 : c = 10 := UInt8.toNat_inj.1 hc
      subst hc2
      exact ⟨by simp [Lib.indexByte], rfl⟩
    · rename_i hc
      simp only [Option.map_eq_some_iff] at h
      obtain ⟨⟨x, y⟩, hx, he⟩ := h
      simp at he
      obtain ⟨rfl, rfl⟩ := he
      obtain ⟨h1, h2⟩ := ih hx
      refine ⟨?_, by rw [h2]; rfl⟩
      have hb : (c == 10) = false := by
        simp only [beq_eq_false_iff_ne]
        intro e; rw [e] at hc; exact hc rfl
      simp only [Lib.indexByte, hb, h1, List.length_cons]
      rw [if_neg (by simp), if_neg (by simp <;> omega)]
      try omega
theorem index10_none {s : Rem.Str} (h : Rem.cut10 s = none) : Lib.indexByte s (10 : UInt8) = -1 := by
  induction s with
  | nil => rfl
  | cons c r ih =>
    unfold Rem.cut10 at h
    split at h
    · cases h
    · rename_i hc
      have hb : (c == 10) = false := by
        simp only [beq_eq_false_iff_ne]
        intro e; rw [e] at hc; exact hc rfl
      simp only [Option.map_eq_none_iff] at h
      simp [Lib.indexByte, hb, ih h]
theorem ext_take (s : Rem.Str) (A : Nat) : (⟨s.toArray⟩ : ByteArray).extract 0 A = ⟨(s.take A).toArray⟩ := by
  apply ByteArray.ext
  simp
theorem ext_drop (s : Rem.Str) (A : Nat) : (⟨s.toArray⟩ : ByteArray).extract A s.length = ⟨(s.drop A).toArray⟩ := by
  apply ByteArray.ext
  simp
  exact List.take_of_length_le (by simp)
theorem lines_step {m : Nat} {s a b : Rem.Str} {A : Nat} (h : Rem.cut10 (s.drop A) = some (a, b)) :
    (Rem.lines (m + 1) (s.drop A)).map (fun (x, y) => (s.take A ++ x, y)) = (Rem.lines m (s.drop (A + (a.length + 1)))).map fun (x, y) => (s.take (A + (a.length + 1)) ++ x, y) := by
  have h2 := (index10_some h).2
  have hb : b = s.drop (A + (a.length + 1)) := by
    rw [← List.drop_drop, h2]
    simp
  have ht : s.take (A + (a.length + 1)) = s.take A ++ (a ++ [10]) := by
    rw [List.take_add, h2]
    have e : a ++ 10 :: b = (a ++ [10]) ++ b := by simp
    rw [e, show a.length + 1 = (a ++ [10]).length by simp, List.take_left]
  rw [← hb, ht]
  have e : Rem.lines (m + 1) (s.drop A) = (Rem.lines m b).map fun (x, y) => (a ++ 10 :: x, y) := by
    conv => lhs; unfold Rem.lines
    rw [h]
  rw [e]
  cases Rem.lines m b <;> simp
theorem lines_stop {m : Nat} {s : Rem.Str} (h : Rem.cut10 s = none) : Rem.lines (m + 1) s = none := by
  unfold Rem.lines
  rw [h]
def CutPost (n : Nat) (s : Rem.Str) (w : World) (e : Ending) (w' : World) : Prop :=
  e = (match Rem.lines n s with
   | some (a, b) => .returned (.tuple #[.string ⟨a.toArray⟩, .string ⟨b.toArray⟩, .bool true])
   | none => .returned (.tuple #[.string ⟨#[]⟩, .string ⟨#[]⟩, .bool false])) ∧ Below w.heap.size w w'

theorem CutPost.yes {n : Nat} {s a b : Rem.Str} {w w' : World} (h : Rem.lines n s = some (a, b)) (hb : Below w.heap.size w w') : CutPost n s w (.returned (.tuple #[.string ⟨a.toArray⟩, .string ⟨b.toArray⟩, .bool true])) w' := by
  unfold CutPost; rw [h]; exact ⟨rfl, hb⟩
theorem CutPost.no {n : Nat} {s : Rem.Str} {w w' : World} (h : Rem.lines n s = none) (hb : Below w.heap.size w w') : CutPost n s w (.returned (.tuple #[.string ⟨#[]⟩, .string ⟨#[]⟩, .bool false])) w' := by
  unfold CutPost; rw [h]; exact ⟨rfl, hb⟩

set_option maxRecDepth 1000000 in
set_option maxHeartbeats 800000 in
theorem cut_any (n : Nat) (s : Rem.Str) (w : World) (hn : n ≤ 6000) (hs : s.length ≤ 1000000) :
    Calls Tryz.prog 20 #[.string ⟨s.toArray⟩, .int .u64 n] w (CutPost n s w) := by
  go_enter Tryz.func20, Tryz.ntmps20
  go_wp2_with fail
  go_loop [1, 7] (fun i a => ∃ m A : Nat, m ≤ n ∧ i = .int .u64 m ∧ a = .int .i64 A ∧ A ≤ s.length ∧ Kept (Rem.lines n s = (Rem.lines m (s.drop A)).map fun (x, y) => (s.take A ++ x, y))) (fun i _ => (intOf i).toNat)
  case atStart => exact ⟨n, 0, Nat.le_refl _, rfl, rfl, Nat.zero_le _, ⟨by simp⟩⟩
  case round =>
    obtain ⟨m, A, hm, rfl, rfl, hA, Hl⟩ := hrel
    rcases m with _ | m
    · have Hend : Kept (Rem.lines n s = some (s.take A, s.drop A)) := ⟨by rw [Hl.out]; simp [Rem.lines]⟩
      clear Hl
      go_wp2_with fail
      go_quiet (fail)
      go_wp2_with fail
      refine bodyPost_ret (v := .tuple #[.string ⟨(s.take A).toArray⟩, .string ⟨(s.drop A).toArray⟩, .bool true]) (by simp [results, Tryz.results20, go_sem, ext_take, ext_drop]) rfl ?_
      exact CutPost.yes Hend.out (below_drewN (Below.refl _ _) _)
    · have hm1 : ((m : Int) + 1) ≤ 6000 := by omega
      cases hc : Rem.cut10 (s.drop A) with
      | none =>
        have Hno : Kept (Rem.lines n s = none) := ⟨by rw [Hl.out, lines_stop hc]; rfl⟩
        have hi := index10_none hc
        clear Hl hc
        go_wp2_with fail
        refine (Tryz.strings_IndexByte _ _ _).mono ?_
        rintro e w1 ⟨rfl, rfl⟩
        rw [ext_drop, show (⟨(s.drop A).toArray⟩ : ByteArray).data.toList = s.drop A from rfl, show (10 : Int).toNat.toUInt8 = 10 from rfl, hi]
        go_wp2_with fail
        refine bodyPost_ret (v := .tuple #[.string ⟨#[]⟩, .string ⟨#[]⟩, .bool false]) (by simp [results, Tryz.results20, go_sem]) rfl ?_
        exact CutPost.no Hno.out (Below.refl _ _)
      | some p =>
        obtain ⟨a, b⟩ := p
        obtain ⟨hi, h2⟩ := index10_some hc
        have hlen : A + (a.length + 1) ≤ s.length := by
          have := congrArg List.length h2
          simp at this
          omega
        have Hst : Kept (Rem.lines n s = (Rem.lines m (s.drop (A + (a.length + 1)))).map fun (x, y) => (s.take (A + (a.length + 1)) ++ x, y)) := ⟨by rw [Hl.out, lines_step hc]⟩
        clear Hl hc h2
        go_wp2_with fail
        refine (Tryz.strings_IndexByte _ _ _).mono ?_
        rintro e w1 ⟨rfl, rfl⟩
        rw [ext_drop, show (⟨(s.drop A).toArray⟩ : ByteArray).data.toList = s.drop A from rfl, show (10 : Int).toNat.toUInt8 = 10 from rfl, hi]
        clear hi
        go_wp2_with fail
        case roundEnd =>
          exact ⟨⟨m, A + (a.length + 1), by omega, rfl, by simp, hlen, Hst⟩, by simp [intOf]; try omega⟩
end Go.Proofs.YtdlieanhdbbhiaaGreatDoor
