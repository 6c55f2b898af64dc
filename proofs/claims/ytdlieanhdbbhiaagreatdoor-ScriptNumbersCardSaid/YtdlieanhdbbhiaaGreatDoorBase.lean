/- Small words for walks: a fact kept from the walk; what stays below. -/
import Derived.Test.YtdlieanhdbbhiaaGreatDoorProg
import Derived.WalkKit
import Derived.OwnWalk
import Derived.WalkSmall
import Derived.Lib.LaidTab
import Derived.Lib.OthersKept
import Derived.Outline
import Derived.BigQuiet
import Derived.Deep.QuietTactic
import Derived.WalkSpells
import Derived.WalkLawsBesides
set_option linter.unusedVariables false
set_option linter.unusedSimpArgs false
namespace Go.Proofs.YtdlieanhdbbhiaaGreatDoor
open Go.RowKit

/-- A fact that the walk does not look into. -/
structure Kept (p : Prop) : Prop where mk :: (out : p)

theorem var_lt {P : Program} {W : World} {n : String} {cs : Array Value} (hv : W.var? P n = some cs) : ∃ g, P.globalNamed n = some g ∧ g < W.heap.size := by
  unfold World.var? at hv
  simp only [Option.bind_eq_some_iff] at hv
  obtain ⟨g, hg, h⟩ := hv
  refine ⟨g, hg, ?_⟩
  by_cases hlt : g < W.heap.size
  · exact hlt
  · rw [Array.getElem?_eq_none (by omega)] at h
    cases h
theorem var_later {P : Program} {W W' : World} {n : String} {cs : Array Value} (h : Below W.heap.size W W') (hv : W.var? P n = some cs) : W'.var? P n = some cs := by
  obtain ⟨g, hg, hlt⟩ := var_lt hv
  exact var?_below h hg hlt hv
theorem cell_later' {W W' : World} {a : Addr} {v : Value} (h : Below W.heap.size W W') (hc : W.cell? a = some v) : W'.cell? a = some v := by
  rw [h.cell (World.block_lt_of_cell? W a hc)]; exact hc

theorem below_next {B : Nat} {w w1 w2 : World} (h : Below B w w1) (hB : B ≤ w1.heap.size) (k : Below w1.heap.size w1 w2) : Below B w w2 :=
  h.trans (k.mono hB)

theorem bcell {W w1 : World} (hb : Below W.heap.size W w1) : (∀ b o, b < W.heap.size → w1.cell? ⟨b, o, none⟩ = W.cell? ⟨b, o, none⟩) ∧ (∀ b o, b < W.heap.size → w1.frozen? ⟨b, o, none⟩ = W.frozen? ⟨b, o, none⟩) :=
  ⟨fun b o h => hb.cell (p := ⟨b, o, none⟩) h, fun b o h => hb.frozen (p := ⟨b, o, none⟩) h⟩

theorem below_drew0 (B : Nat) (w : World) : Below B w w.drew := ⟨rfl, rfl, rfl, Nat.le_refl _, fun _ _ => rfl⟩
theorem below_of_drew {w w1 : World} (h : Below w.drew.heap.size w.drew w1) : Below w.heap.size w w1 := (below_drew0 _ w).trans h
theorem bl_a {w Y : World} {o : Obj} (h : Below w.heap.size w Y) : Below w.heap.size w (Y.alloc o) := h.alloc h.size _
theorem bl_d {w Y : World} (h : Below w.heap.size w Y) : Below w.heap.size w Y.drew := h.trans (below_drew0 _ _)
theorem bl_c {w Y X : World} (hb : Below Y.heap.size Y X) (h : Below w.heap.size w Y) : Below w.heap.size w X := below_next h h.size hb
end Go.Proofs.YtdlieanhdbbhiaaGreatDoor
