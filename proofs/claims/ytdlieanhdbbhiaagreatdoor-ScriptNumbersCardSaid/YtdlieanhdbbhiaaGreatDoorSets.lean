/- Walk: script.sets. -/
import Derived.Test.YtdlieanhdbbhiaaGreatDoorSet
import Derived.Test.YtdlieanhdbbhiaaGreatDoorPureSets
import Derived.Maps.AppendAt
import Derived.Deep.DeepMust
set_option linter.unusedVariables false
set_option linter.unusedSimpArgs false
namespace Go.Proofs.YtdlieanhdbbhiaaGreatDoor
open Go.RowKit

/-- a slice of texts that can be read -/
def StrsAt (w : World) (v : Value) (l : List Rem.Str) : Prop :=
  ∃ a cap, v = .slice a l.length cap ∧ l.length ≤ cap ∧ (l ≠ [] → ∃ g o, a = some ⟨g, o, none⟩ ∧ ∀ j x, l[j]? = some x → w.cell? ⟨g, o + j, none⟩ = some (.string ⟨x.toArray⟩))
theorem pw_kept {w w1 : World} {base : Nat} {e : TypeId} {size : Nat} {v : Value} {n : Nat} {xs : List Value} (h : w.ownsRow base e size v n xs) (hb : Below w.heap.size w w1) : w1.ownsRow base e size v n xs := by
  obtain ⟨h1, h2⟩ := h
  refine ⟨h1, ?_⟩
  rcases h2 with h2 | ⟨g, cap, cur, hv, hg, hh, r⟩
  · exact .inl h2
  · exact .inr ⟨g, cap, cur, hv, hg, by rw [hb.block g (Array.getElem?_eq_some_iff.1 hh).1]; exact hh, r⟩
def setVs (l : List (Int × Int)) : List Value := l.flatMap fun p => [.int .i64 p.1, .int .i64 p.2]
theorem setVs_append (a b : List (Int × Int)) : setVs (a ++ b) = setVs a ++ setVs b := by simp [setVs]
theorem cell_two_at (W : World) (n : Nat) (hn : n = W.heap.size) (a b : Value) (t : TypeId) : ∀ j u, [a, b][j]? = some u → (W.alloc (.cells #[a, b] t)).cell? ((⟨n, 0, none⟩ : Addr).add j) = some u := by
  subst hn
  exact cell_two_new W a b t
def SetsPost (l : List Rem.Str) (w : World) (e : Ending) (w' : World) : Prop :=
  (match Rem.sets l with
   | some x => ∃ v, e = .returned (.tuple #[v, .bool true]) ∧ w'.ownsRow w.heap.size 43 2 v x.length (setVs x)
   | none => e = .returned (.tuple #[.slice none 0 0, .bool false])) ∧ Below w.heap.size w w'
theorem SetsPost.no {l : List Rem.Str} {w w' : World} (h : Rem.sets l = none) (hb : Below w.heap.size w w') : SetsPost l w (.returned (.tuple #[.slice none 0 0, .bool false])) w' := by
  unfold SetsPost; rw [h]; exact ⟨rfl, hb⟩
theorem SetsPost.yes {l : List Rem.Str} {w w' : World} {x : List (Int × Int)} {v : Value} (h : Rem.sets l = some x) (hv : w'.ownsRow w.heap.size 43 2 v x.length (setVs x)) (hb : Below w.heap.size w w') : SetsPost l w (.returned (.tuple #[v, .bool true])) w' := by
  unfold SetsPost; rw [h]; exact ⟨⟨v, rfl, hv⟩, hb⟩
theorem info_set : (Tryz.prog.info? 43).map (fun i => (i.zero, i.size, i.bytes)) = some (some (.agg #[.int .i64 0, .int .i64 0]), 2, 16) := by kernel_rfl

set_option maxRecDepth 1000000 in
set_option maxHeartbeats 400000 in
theorem sets_none (a : Option Addr) (cap : Nat) (w : World) :
    Calls Tryz.prog 35 #[.slice a 0 cap] w (SetsPost [] w) := by
  go_enter Tryz.func35, Tryz.ntmps35
  go_wp2_with fail
  refine wp_loop_rounds 1 ?_
  rw [rounds_succ]
  go_wp2_with fail
  go_ret2
  exact SetsPost.yes rfl (World.ownsRow_nil _ _ _ _) (Below.refl _ _)

set_option maxRecDepth 1000000 in
set_option maxHeartbeats 400000 in
theorem sets_some (w : World) (g o cap n : Nat) (l : List Rem.Str) (hn : Kept (l.length = n)) (hn1 : n ≤ 1000000) (hcells : Kept (∀ j x, l[j]? = some x → ∀ W, Below w.heap.size w W → W.cell? ⟨g, o + j, none⟩ = some (.string ⟨x.toArray⟩))) (hlen : Kept (∀ x ∈ l, x.length ≤ 1000000)) (hG : Kept (Glob w)) :
    Calls Tryz.prog 35 #[.slice (some ⟨g, o, none⟩) n cap] w (SetsPost l w) := by
  obtain ⟨i0, hi, hz0, hz1, hz2⟩ := info_parts info_set
  go_enter Tryz.func35, Tryz.ntmps35
  go_wp2_with fail
  go_loopw [4, 11] (fun v i wr => ∃ (k : Nat) (acc : List (Int × Int)), k ≤ n ∧ i = .int .i64 k ∧ wr.ownsRow w.heap.size 43 2 v acc.length (setVs acc) ∧ Below w.heap.size w wr ∧ Kept (Rem.sets (l.take k) = some acc) ∧ acc.length ≤ k) (fun _ i _ => n - (intOf i).toNat)
  case atStart => exact ⟨0, [], by omega, rfl, World.ownsRow_nil _ _ _ _, Below.refl _ _, ⟨by simp [Rem.sets]⟩, by simp⟩
  case round =>
    obtain ⟨k, acc, hk, rfl, hown, hbw, Hacc, hal⟩ := hrel
    have Hown := Kept.mk hown
    have hws := hbw.size
    by_cases hlt : k < n
    · obtain ⟨x, hx⟩ : ∃ x, l[k]? = some x := ⟨l[k]'(by rw [hn.out]; exact hlt), List.getElem?_eq_getElem _⟩
      have hxl : x.length ≤ 1000000 := hlen.out x (List.mem_of_getElem? hx)
      have ct := hcells.out k x hx wr hbw
      have Hx := Kept.mk hx
      have hGr := hG.out.later hbw
      clear hx hown
      go_wp2_with fail
      refine (set_any x _ hGr hxl).mono ?_
      intro e w1 hp
      unfold SetPost at hp
      obtain ⟨hp, hb1⟩ := hp
      cases hset : Rem.set x with
      | none =>
        rw [hset] at hp
        obtain ⟨p1, p2, rfl⟩ := hp
        have Hno : Kept (Rem.sets l = none) := ⟨Rem.sets_bad Hx.out hset⟩
        have hb2 := below_next hbw hbw.size hb1
        clear hset hGr
        go_wp2_with fail
        go_ret2
        exact SetsPost.no Hno.out (hb2.alloc hb2.size _)
      | some p =>
        obtain ⟨p1, p2⟩ := p
        rw [hset] at hp
        simp only at hp
        subst hp
        have Hnext : Kept (Rem.sets (l.take (k + 1)) = some (acc ++ [(p1, p2)])) := ⟨Rem.sets_next Hacc.out Hx.out hset⟩
        have hb2 := below_next hbw hbw.size hb1
        have hown1 := pw_kept Hown.out hb1
        clear hset hGr
        go_wp2_with (first
          | (at_builtin; refine wpList_append_own _ rfl _ _ 38 rfl (w.heap.size) 43 i0 (.agg #[.int .i64 0, .int .i64 0]) 2 16 Tryz.underlying38 hi hz0 hz1 hz2 rfl (by decide) _ _ _ rfl ((hown1.alloc _).alloc _) ⟨w1.heap.size + 1, 0, none⟩ 1 1 [.int .i64 p1, .int .i64 p2] rfl rfl (cell_two_at _ _ (by simp) _ _ _) (fun x hx => by simp at hx; rcases hx with rfl | rfl <;> rfl) (by unfold maxLen; omega) (by omega) (by simp; have := hb2.size; omega) ?_; intro v' w3 hown' hgrow3 hnil3))
        have hb3 : Below w.heap.size w w3 := Below.grown ((hb2.alloc hb2.size _).alloc (by simp; have := hb2.size; omega) _) hgrow3 (by simp; have := hb2.size; omega) (fun j hj => (hown1.lt _ hj).1)
        have X : Kept (w3.ownsRow w.heap.size 43 2 v' (acc.length + 1) (setVs acc ++ [.int .i64 p1, .int .i64 p2]) ∧ Below w.heap.size w w3) := ⟨hown', hb3⟩
        clear hown' hgrow3 hnil3 hb3 hown1
        go_wp2_with fail
        go_roundw
        case rel =>
          refine ⟨k + 1, acc ++ [(p1, p2)], by omega, by go_num, ?_, X.out.2, Hnext, by simp; omega⟩
          have := X.out.1
          simpa [setVs] using this
        case measure => simp [intOf]; omega
    · have hkn : k = n := by omega
      have Hend : Kept (Rem.sets l = some acc) := ⟨by have := Hacc.out; rwa [List.take_of_length_le (by rw [hn.out]; omega)] at this⟩
      subst hkn
      clear hown
      go_wp2_with fail
      go_ret2
      exact SetsPost.yes Hend.out Hown.out hbw
end Go.Proofs.YtdlieanhdbbhiaaGreatDoor
