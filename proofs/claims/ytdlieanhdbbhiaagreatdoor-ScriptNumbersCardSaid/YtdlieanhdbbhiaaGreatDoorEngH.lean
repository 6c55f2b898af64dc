/- Walks: an engine without models: Play of a tick and a look. -/
import Derived.Test.YtdlieanhdbbhiaaGreatDoorEngG
import Derived.Test.YtdlieanhdbbhiaaGreatDoorSets
import Derived.RowKit3
set_option linter.unusedVariables false
set_option linter.unusedSimpArgs false
namespace Go.Proofs.YtdlieanhdbbhiaaGreatDoor
open Go.RowKit

theorem own_only {w w1 : World} {base : Nat} {e : TypeId} {size : Nat} {v : Value} {n : Nat} {xs : List Value} {S : Nat → Prop} (h : w.ownsRow base e size v n xs) (ho : Only w w1 S) (hS : ∀ k, base ≤ k → ¬ S k) : w1.ownsRow base e size v n xs := by
  obtain ⟨h1, h2⟩ := h
  refine ⟨h1, ?_⟩
  rcases h2 with h2 | ⟨g, cap, cur, hv, hg, hh, r⟩
  · exact .inl h2
  · exact .inr ⟨g, cap, cur, hv, hg, by rw [ho.block g (Array.getElem?_eq_some_iff.1 hh).1 (hS g hg)]; exact hh, r⟩
theorem info_out : (Tryz.prog.info? 28).map (fun i => (i.zero, i.size, i.bytes)) = some (some (.agg #[.int .i64 0, .int .i64 0, .int .i64 0, .int .i64 0, .int .i64 0, .int .i64 0, .int .i64 0, .int .u64 0, .slice none 0 0]), 9, 88) := by kernel_rfl
theorem nine_new (W : World) (n : Nat) (hn : n = W.heap.size) (a b c d e f g h i : Value) (t : TypeId) : ∀ j u, [a, b, c, d, e, f, g, h, i][j]? = some u → (W.alloc (.cells #[a, b, c, d, e, f, g, h, i] t)).cell? ((⟨n, 0, none⟩ : Addr).add j) = some u := by
  subst hn
  intro j u hj
  match j, hj with
  | 0, hj => simp at hj; subst hj; simp [Addr.add]
  | 1, hj => simp at hj; subst hj; simp [Addr.add]
  | 2, hj => simp at hj; subst hj; simp [Addr.add]
  | 3, hj => simp at hj; subst hj; simp [Addr.add]
  | 4, hj => simp at hj; subst hj; simp [Addr.add]
  | 5, hj => simp at hj; subst hj; simp [Addr.add]
  | 6, hj => simp at hj; subst hj; simp [Addr.add]
  | 7, hj => simp at hj; subst hj; simp [Addr.add]
  | 8, hj => simp at hj; subst hj; simp [Addr.add]
  | j + 9, hj => simp at hj
theorem Only.trans_new {a b c : World} {S : Nat → Prop} {row : Option Nat} (h : Only a b S) (_ : a.heap.size ≤ b.heap.size) (k : b.grownBy c row) (hr : ∀ j, row = some j → a.heap.size ≤ j) : Only a c S :=
  ⟨k.os.trans h.os, k.tape.trans h.tape, k.output.trans h.output, Nat.le_trans h.size k.size, fun i hi hs => (k.block i (Nat.lt_of_lt_of_le hi h.size) (by intro e; have := hr i e.symm; omega)).trans (h.block i hi hs)⟩
abbrev out7 : Array Value := outZero.setIfInBounds 0 (.int .i64 7)

set_option maxRecDepth 1000000 in
set_option maxHeartbeats 3200000 in
theorem play2 (w : World) (x b wh tm wk far all : Nat) (rs : List Nat) (h : Kept (Eng w x 0 b wh tm wk far all rs)) (g cap : Nat) (a1 a2 : Option Addr) (k1 k2 : Nat) (hg : g ≠ x ∧ g ≠ wh)
    (hc : Kept (∀ (j : Nat) (u : Value), [Value.int .i64 3, .int .i64 0, .int .u64 5, .string ⟨#[]⟩, .slice a1 0 k1, .int .i64 7, .int .i64 1, .int .u64 0, .string ⟨#[]⟩, .slice a2 0 k2][j]? = some u → w.cell? ⟨g, j, none⟩ = some u)) :
    Calls Tryz.prog 29 #[ptr x, .slice (some ⟨g, 0, none⟩) 2 cap] w fun e w' => (∃ v, e = .returned v ∧ w'.ownsRow w.heap.size 28 9 v 2 (outZero.toList ++ out7.toList)) ∧ Only w w' (fun j => j = x ∨ j = wh) := by
  obtain ⟨i0, hi, hz0, hz1, hz2⟩ := info_parts info_out
  have hlt := h.out.lt
  have hltw := h.out.wheel.lt
  have hS : Kept (∀ k, w.heap.size ≤ k → ¬ (fun j => j = x ∨ j = wh) k) := ⟨fun k hk hh => by rcases hh with hh | hh <;> omega⟩
  unfold ptr
  go_enter Tryz.func29, Tryz.ntmps29
  go_wp2_with fail
  refine wp_loop_rounds 3 ?_
  rw [rounds_succ]
  have d0 := hc.out 0 _ rfl
  have d1 := hc.out 1 _ rfl
  have d2 := hc.out 2 _ rfl
  have d3 := hc.out 3 _ rfl
  have d4 := hc.out 4 _ rfl
  go_wp2_with fail
  refine (do_tick _ x b wh tm wk far all rs ⟨h.out.later ((Below.refl _ _).alloc (Nat.le_refl _) _)⟩ ⟨#[]⟩ a1 0 k1).mono ?_
  rintro e w1 ⟨rfl, he1, ho1⟩
  have HE1 := Kept.mk he1
  have HO1 : Kept (Only w w1 (fun j => j = x ∨ j = wh)) := ⟨((Only.refl w _).alloc _).trans ho1⟩
  have hsz := ho1.size
  clear he1 ho1 d0 d1 d2 d3 d4
  go_wp2_with (first
    | (at_builtin; refine wpList_append_own _ rfl _ _ 80 rfl (w.heap.size) 28 i0 (.agg #[.int .i64 0, .int .i64 0, .int .i64 0, .int .i64 0, .int .i64 0, .int .i64 0, .int .i64 0, .int .u64 0, .slice none 0 0]) 9 88 Tryz.underlying80 hi hz0 hz1 hz2 rfl (by decide) _ _ _ rfl (World.ownsRow_nil _ _ _ _) ⟨w1.heap.size, 0, none⟩ 1 1 outZero.toList rfl rfl (nine_new _ _ (by simp) _ _ _ _ _ _ _ _ _ _) (fun x hx => by simp at hx; rcases hx with rfl | rfl | rfl <;> rfl) (by unfold maxLen; omega) (by omega) (by simp at hsz ⊢; omega) ?_; intro v' w3 hown' hgrow3 hnil3))
  have HR3 : Kept (w3.ownsRow w.heap.size 28 9 v' 1 outZero.toList) := ⟨by simpa using hown'⟩
  have hg3 : World.grownBy _ w3 none := hgrow3
  have HO3 : Kept (Only w w3 (fun j => j = x ∨ j = wh)) := ⟨(HO1.out.alloc _).trans ⟨hg3.os, hg3.tape, hg3.output, hg3.size, fun k hk _ => hg3.block k hk (by simp)⟩⟩
  have HE3 : Kept (Eng w3 x 5 b wh tm wk far all rs) := ⟨(HE1.out.later ((Below.refl _ _).alloc (Nat.le_refl _) _)).later ⟨hg3.os, hg3.tape, hg3.output, hg3.size, fun k hk => hg3.block k hk (by simp)⟩⟩
  have hsz3 := HO3.out.size
  have hn : ∀ k, k < w.heap.size → k ≠ x → k ≠ wh → ¬ (k = x ∨ k = wh) := fun k _ h1 h2 h3 => by rcases h3 with h3 | h3 <;> omega
  have hgw : g < w.heap.size := World.block_lt_of_cell? w ⟨g, 0, none⟩ (hc.out 0 _ rfl)
  have d5 : w3.cell? ⟨g, 5, none⟩ = some (.int .i64 7) := HO3.out.cell (hc.out 5 _ rfl) (hn g hgw hg.1 hg.2)
  have d6 : w3.cell? ⟨g, 6, none⟩ = some (.int .i64 1) := HO3.out.cell (hc.out 6 _ rfl) (hn g hgw hg.1 hg.2)
  have d7 : w3.cell? ⟨g, 7, none⟩ = some (.int .u64 0) := HO3.out.cell (hc.out 7 _ rfl) (hn g hgw hg.1 hg.2)
  have d8 : w3.cell? ⟨g, 8, none⟩ = some (.string ⟨#[]⟩) := HO3.out.cell (hc.out 8 _ rfl) (hn g hgw hg.1 hg.2)
  have d9 : w3.cell? ⟨g, 9, none⟩ = some (.slice a2 0 k2) := HO3.out.cell (hc.out 9 _ rfl) (hn g hgw hg.1 hg.2)
  have hcap : 2 ≤ cap ∨ True := .inr trivial
  clear hown' hgrow3 hnil3 hn hg3
  go_wp2_with fail
  rw [rounds_succ]
  go_wp2_with fail
  refine (do_look _ x b wh tm wk far all rs 5 ⟨HE3.out.later ((Below.refl _ _).alloc (Nat.le_refl _) _)⟩ ⟨#[]⟩ a2 0 k2).mono ?_
  rintro e w4 ⟨rfl, he4, ho4⟩
  have HO4 : Kept (Only w w4 (fun j => j = x ∨ j = wh)) := ⟨(HO3.out.alloc _).trans ho4⟩
  have HR4 := Kept.mk (own_only (HR3.out.alloc (.cells (opAgg 7 1 0 (.string ⟨#[]⟩) a2 0 k2) 40)) ho4 hS.out)
  have hsz4 := HO4.out.size
  clear he4 ho4 d5 d6 d7 d8 d9
  go_wp2_with (first
    | (at_builtin; refine wpList_append_own _ rfl _ _ 80 rfl (w.heap.size) 28 i0 (.agg #[.int .i64 0, .int .i64 0, .int .i64 0, .int .i64 0, .int .i64 0, .int .i64 0, .int .i64 0, .int .u64 0, .slice none 0 0]) 9 88 Tryz.underlying80 hi hz0 hz1 hz2 rfl (by decide) _ _ _ rfl (HR4.out.alloc _) ⟨w4.heap.size, 0, none⟩ 1 1 out7.toList rfl rfl (nine_new _ _ (by simp) _ _ _ _ _ _ _ _ _ _) (fun x hx => by simp at hx; rcases hx with rfl | rfl | rfl | rfl <;> rfl) (by unfold maxLen; omega) (by omega) (by simp; omega) ?_; intro v5 w5 hown5 hgrow5 hnil5))
  have HR5 : Kept (w5.ownsRow w.heap.size 28 9 v5 2 (outZero.toList ++ out7.toList)) := ⟨hown5⟩
  have HO5 : Kept (Only w w5 (fun j => j = x ∨ j = wh)) := ⟨(HO4.out.alloc _).trans_new (by have := HO4.out.size; simp; omega) hgrow5 (fun k hk => (HR4.out.lt k hk).1)⟩
  clear hown5 hgrow5 hnil5
  go_wp2_with fail
  rw [rounds_succ]
  go_wp2_with fail
  go_ret
  exact ⟨⟨_, rfl, HR5.out⟩, HO5.out⟩
end Go.Proofs.YtdlieanhdbbhiaaGreatDoor
