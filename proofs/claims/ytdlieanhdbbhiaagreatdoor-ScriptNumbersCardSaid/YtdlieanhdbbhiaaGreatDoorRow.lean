/- Walk: script.row. -/
import Derived.Test.YtdlieanhdbbhiaaGreatDoorSets
import Derived.Test.YtdlieanhdbbhiaaGreatDoorSplit
import Derived.Lib.ItoaLen
set_option linter.unusedVariables false
set_option linter.unusedSimpArgs false
namespace Go.Proofs.YtdlieanhdbbhiaaGreatDoor
open Go.RowKit

/-- numbers with blanks between -/
def rowText (l : List Int) : Rem.Str := Lib.join (l.map Lib.itoa) [32]
def IntOk (n : Int) : Prop := -9223372036854775808 ≤ n ∧ n ≤ 9223372036854775807

theorem join_len (xs : List (List UInt8)) (h : ∀ x ∈ xs, x.length ≤ 21) : (Lib.join xs [32]).length ≤ 22 * xs.length := by
  cases xs with
  | nil => simp [Lib.join_nil]
  | cons x r =>
    unfold Lib.join
    induction r generalizing x with
    | nil => have := h x (by simp); simp [List.intercalate]; omega
    | cons y r ih =>
      have hx := h x (by simp)
      have := ih y (fun z hz => h z (by simp at hz ⊢; right; exact hz))
      simp [List.intercalate] at this ⊢
      omega

set_option maxRecDepth 1000000 in
set_option maxHeartbeats 400000 in
theorem row_any (w : World) (g o cap n : Nat) (l : List Int) (hn : Kept (l.length = n)) (hn0 : 0 < n) (hn1 : n ≤ 1000) (hcells : Kept (∀ (j : Nat) (x : Int), l[j]? = some x → ∀ W, Below w.heap.size w W → W.cell? ⟨g, o + j, none⟩ = some (.int .i64 x))) (hok : Kept (∀ x ∈ l, IntOk x)) (hG : Kept (Glob w)) :
    Calls Tryz.prog 11 #[.slice (some ⟨g, o, none⟩) n cap] w fun e w' => e = .returned (.string ⟨(rowText l).toArray⟩) ∧ Below w.heap.size w w' := by
  obtain ⟨i0, hi, hz0, hz1, hz2⟩ := info_parts info_str
  go_enter Tryz.func11, Tryz.ntmps11
  go_wp2_with fail
  go_loopw [3, 8] (fun v i wr => ∃ (k : Nat), k ≤ n ∧ i = .int .i64 k ∧ wr.ownsRow w.heap.size 9 1 v k (strVs ((l.take k).map Lib.itoa)) ∧ Below w.heap.size w wr) (fun _ i _ => n - (intOf i).toNat)
  case atStart => exact ⟨0, by omega, rfl, World.ownsRow_nil _ _ _ _, Below.refl _ _⟩
  case round =>
    obtain ⟨k, hk, rfl, hown, hbw⟩ := hrel
    have Hown := Kept.mk hown
    have hws := hbw.size
    by_cases hlt : k < n
    · obtain ⟨x, hx⟩ : ∃ x, l[k]? = some x := ⟨l[k]'(by rw [hn.out]; exact hlt), List.getElem?_eq_getElem _⟩
      have hxo := hok.out x (List.mem_of_getElem? hx)
      have ct := hcells.out k x hx wr hbw
      have Hx := Kept.mk hx
      have hGr := hG.out.later hbw
      clear hx hown
      go_wp2_with fail
      refine (itoa_any x hxo.1 hxo.2 _ hGr).mono ?_
      rintro e w1 ⟨rfl, hb1⟩
      have hb2 := below_next hbw hbw.size hb1
      have hown1 := pw_kept Hown.out hb1
      clear hGr hxo
      go_wp2_with (first
        | (at_builtin; refine wpList_append_own _ rfl _ _ 30 rfl (w.heap.size) 9 i0 (.string ⟨#[]⟩) 1 16 Tryz.underlying30 hi hz0 hz1 hz2 rfl (by decide) _ _ _ rfl (hown1.alloc _) ⟨w1.heap.size, 0, none⟩ 1 1 [.string ⟨(Lib.itoa x).toArray⟩] rfl rfl (cell_one_new _ _ _) (by simp [Value.oneCell']) (by unfold maxLen; omega) (by omega) (by simp; have := hb2.size; omega) ?_; intro v' w3 hown' hgrow3 hnil3))
      have hb3 : Below w.heap.size w w3 := Below.grown (hb2.alloc hb2.size _) hgrow3 (by simp; have := hb2.size; omega) (fun j hj => (hown1.lt _ hj).1)
      have hnext : w3.ownsRow w.heap.size 9 1 v' (k + 1) (strVs ((l.take (k + 1)).map Lib.itoa)) := by
        have e1 : l.take (k + 1) = l.take k ++ [x] := by rw [List.take_add_one, Hx.out]; rfl
        rw [e1]
        simpa [strVs] using hown'
      have X : Kept (w3.ownsRow w.heap.size 9 1 v' (k + 1) (strVs ((l.take (k + 1)).map Lib.itoa)) ∧ Below w.heap.size w w3) := ⟨hnext, hb3⟩
      clear hown' hgrow3 hnil3 hb3 hown1 hnext
      go_wp2_with fail
      go_roundw
      case rel => exact ⟨k + 1, by omega, by go_num, X.out.1, X.out.2⟩
      case measure => simp [intOf]; omega
    · have hkn : k = n := by omega
      subst hkn
      have hown2 : wr.ownsRow w.heap.size 9 1 u3 k (strVs (l.map Lib.itoa)) := by
        have := Hown.out
        rwa [List.take_of_length_le (by rw [hn.out]; omega)] at this
      obtain ⟨k0, rfl⟩ : ∃ k0, k = k0 + 1 := ⟨k - 1, by omega⟩
      obtain ⟨g2, cap2, hv, hg2, hcap2⟩ := own_some hown2
      rw [hv] at hown2 ⊢
      have H2 := Kept.mk hown2
      have hlen : (l.map fun x => (⟨(Lib.itoa x).toArray⟩ : ByteArray)).length = k0 + 1 := by simp [hn.out]
      have hmap : (l.map fun x => (⟨(Lib.itoa x).toArray⟩ : ByteArray)).map (·.data.toList) = l.map Lib.itoa := by simp
      have hj := join_len (l.map Lib.itoa) (fun y hy => by
        obtain ⟨z, hz, rfl⟩ := List.mem_map.1 hy
        exact Lib.itoa_length_le z (hok.out z hz).1 (hok.out z hz).2)
      have hJ : Kept ((Lib.join (l.map Lib.itoa) [32]).length ≤ 140737488355328) := ⟨by simp [hn.out] at hj; omega⟩
      have hblk := (hown2.lt g2 rfl).2
      clear hown hown2 hv hj
      go_wp2_with fail
      rw [← hlen]
      refine (Tryz.strings_Join g2 0 cap2 (l.map fun x => (⟨(Lib.itoa x).toArray⟩ : ByteArray)) ⟨#[32]⟩ _ (fun j x hx => ?_) hblk (by rw [hlen]; omega) (by rw [hlen]; exact hcap2) (by rw [hmap]; exact hJ.out)).mono ?_
      · have hjl : j < k0 + 1 := by have := (List.getElem?_eq_some_iff.1 hx).1; omega
        rw [Nat.zero_add, H2.out.cellAt j (by simp [strVs, hn.out]; omega)]
        rw [List.getElem?_map] at hx
        obtain ⟨z, hz, rfl⟩ := Option.map_eq_some_iff.1 hx
        simp [strVs, hz]
      rintro e w1 ⟨rfl, hb1⟩
      rw [hmap]
      go_wp2_with fail
      go_ret
      exact ⟨rfl, below_next hbw hbw.size hb1⟩
end Go.Proofs.YtdlieanhdbbhiaaGreatDoor
