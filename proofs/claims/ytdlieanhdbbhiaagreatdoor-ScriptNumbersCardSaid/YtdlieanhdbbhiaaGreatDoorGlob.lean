/- What is known of the package-level variables when a call begins, and that it stays so; the library's contracts in the form in which the walks take them. -/
import Derived.Test.YtdlieanhdbbhiaaGreatDoorBase
import Derived.Test.YtdlieanhdbbhiaaGreatDoorShelf
import Derived.Test.YtdlieanhdbbhiaaGreatDoorPureLib
import Derived.Shelf.Strings.SlTrimAscii
import Derived.WalkKit
import Derived.OwnWalk
import Derived.WalkSmall
import Derived.Lib.LaidTab
import Derived.Lib.OthersKept
set_option linter.unusedVariables false
set_option linter.unusedSimpArgs false
namespace Go.Proofs.YtdlieanhdbbhiaaGreatDoor
open Go.RowKit

structure Glob (w : World) : Prop where
  pow : Lib.TabIs Tryz.prog w "internal/strconv.uint64pow10" .u64 Lib.pow10Tab
  maxl : ∃ m, w.cell? ⟨1, 0, none⟩ = some (.int .i64 m)
  rng : ∃ t p, w.var? Tryz.prog "strconv.ErrRange" = some #[.iface t p]

theorem Glob.later {w w' : World} (h : Glob w) (hb : Below w.heap.size w w') : Glob w' where
  pow := var_later hb h.pow
  maxl := let ⟨m, hm⟩ := h.maxl; ⟨m, cell_later' hb hm⟩
  rng := let ⟨t, p, hp⟩ := h.rng; ⟨t, p, var_later hb hp⟩

theorem below_growth {w w' : World} (h : ∃ k os, w' = Go.Sort.grow (w.drewN k) os) : Below w.heap.size w w' := by
  obtain ⟨k, os, rfl⟩ := h
  refine ⟨rfl, rfl, rfl, ?_, fun i hi => ?_⟩
  · show w.heap.size ≤ (w.heap ++ os).size
    simp
  · show (w.heap ++ os)[i]? = _
    rw [Array.getElem?_append_left hi]

theorem bytesWorld_below (w : World) (e : TypeId) (s : ByteArray) : Below w.heap.size w (Lib.bytesWorld w e s) := by
  refine ⟨rfl, rfl, rfl, ?_, fun i hi => Lib.bytesWorld_at_old w e s i hi⟩
  unfold Lib.bytesWorld
  simp [World.freeze]

/-! ### The library's functions -/
theorem itoa_any (n : Int) (h0 : -9223372036854775808 ≤ n) (h1 : n ≤ 9223372036854775807) (w : World) (hG : Glob w) :
    Calls Tryz.prog 21 #[.int .i64 n] w fun e w' => e = .returned (.string ⟨(Lib.itoa n).toArray⟩) ∧ Below w.heap.size w w' :=
  (Tryz.strconv_Itoa n h0 h1 w hG.pow).mono fun _ _ ⟨he, hw⟩ => ⟨he, below_growth hw⟩
theorem formatInt_any (n : Int) (h0 : -9223372036854775808 ≤ n) (h1 : n ≤ 9223372036854775807) (w : World) (hG : Glob w) :
    Calls Tryz.prog 44 #[.int .i64 n, .int .i64 10] w fun e w' => e = .returned (.string ⟨(Lib.itoa n).toArray⟩) ∧ Below w.heap.size w w' :=
  (Tryz.strconv_FormatInt_10 n h0 h1 w hG.pow).mono fun _ _ ⟨he, hw⟩ => ⟨he, below_growth hw⟩
theorem size_mk (l : List UInt8) : (⟨l.toArray⟩ : ByteArray).size = l.length := by simp [ByteArray.size]
/-- strings.Cut at one byte: found. -/
theorem cut_yes (c : UInt8) (s a b : Rem.Str) (h : Rem.cutAt c s = some (a, b)) (w : World) (hG : Glob w) (hs : s.length < 4294967281) :
    Calls Tryz.prog 18 #[.string ⟨s.toArray⟩, .string ⟨#[c]⟩] w fun e w' => e = .returned (.tuple #[.string ⟨a.toArray⟩, .string ⟨b.toArray⟩, .bool true]) ∧ ∃ n, w' = w.drewN n := by
  obtain ⟨m, hm⟩ := hG.maxl
  refine (Tryz.strings_Cut ⟨s.toArray⟩ ⟨#[c]⟩ m w (by rw [size_mk]; exact hs) hm).mono fun e w' ⟨he, hw⟩ => ⟨?_, hw⟩
  have e1 : Lib.cut s [c] = (a, b, true) := by rw [Rem.lib_cut, h]
  rw [he]
  show Ending.returned (.tuple #[.string ⟨(Lib.cut s [c]).1.toArray⟩, .string ⟨(Lib.cut s [c]).2.1.toArray⟩, .bool (Lib.cut s [c]).2.2]) = _
  rw [e1]
theorem cut_no (c : UInt8) (s : Rem.Str) (h : Rem.cutAt c s = none) (w : World) (hG : Glob w) (hs : s.length < 4294967281) :
    Calls Tryz.prog 18 #[.string ⟨s.toArray⟩, .string ⟨#[c]⟩] w fun e w' => e = .returned (.tuple #[.string ⟨s.toArray⟩, .string ⟨#[]⟩, .bool false]) ∧ ∃ n, w' = w.drewN n := by
  obtain ⟨m, hm⟩ := hG.maxl
  refine (Tryz.strings_Cut ⟨s.toArray⟩ ⟨#[c]⟩ m w (by rw [size_mk]; exact hs) hm).mono fun e w' ⟨he, hw⟩ => ⟨?_, hw⟩
  have e1 : Lib.cut s [c] = (s, [], false) := by rw [Rem.lib_cut, h]
  rw [he]
  show Ending.returned (.tuple #[.string ⟨(Lib.cut s [c]).1.toArray⟩, .string ⟨(Lib.cut s [c]).2.1.toArray⟩, .bool (Lib.cut s [c]).2.2]) = _
  rw [e1]
end Go.Proofs.YtdlieanhdbbhiaaGreatDoor
