import Derived.Test.YtdlieanhdbbhiaaGreatDoorGlob
import Derived.Test.YtdlieanhdbbhiaaGreatDoorPure
import Derived.WalkKit
import Derived.OwnWalk
import Derived.Outline
import Derived.BigQuiet
import Derived.Deep.QuietTactic
import Derived.WalkSpells
import Derived.WalkLawsBesides
import Derived.WalkSmall
import Derived.Deep.LoopGhost
import Derived.Lib.OthersKept
import Derived.Maps.AppendAt
import Derived.Laws.Runes
set_option linter.unusedVariables false
set_option linter.unusedSimpArgs false
namespace Go.Proofs.YtdlieanhdbbhiaaGreatDoor
open Go.RowKit

def strVs (l : List (List UInt8)) : List Value := l.map fun w => .string ⟨w.toArray⟩
theorem info_str : (Tryz.prog.info? 9).map (fun i => (i.zero, i.size, i.bytes)) = some (some (.string ⟨#[]⟩), 1, 16) := by kernel_rfl

theorem lt_of_block {w : World} {k : Nat} {o : Obj} (h : w.heap[k]? = some o) : k < w.heap.size := (Array.getElem?_eq_some_iff.1 h).1

theorem ownsRow_iterAt' {w : World} {base : Nat} {e : TypeId} {size : Nat} {v : Value} {n : Nat} {xs : List Value} (h : w.ownsRow base e size v n xs) {k : Nat} {s : ByteArray} {p : Nat} (hk : w.heap[k]? = some (.stringIter s p)) (p' : Nat) : (w.iterAt k s p').ownsRow base e size v n xs := by
  obtain ⟨h1, h2⟩ := h
  refine ⟨h1, ?_⟩
  rcases h2 with h2 | ⟨g, cap, cur, a, b, c, d⟩
  · exact .inl h2
  · exact .inr ⟨g, cap, cur, a, b, by rw [Lib.iterAt_other _ _ _ _ _ (by intro e1; rw [e1, hk] at c; cases c)]; exact c, d⟩

theorem own_ne_iter {w : World} {base : Nat} {e : TypeId} {size : Nat} {v : Value} {n : Nat} {xs : List Value} (h : w.ownsRow base e size v n xs) {k : Nat} {s : ByteArray} {p : Nat} (hk : w.heap[k]? = some (.stringIter s p)) : some k ≠ v.ownBlock := by
  intro e1
  rcases h.2 with ⟨rfl, _⟩ | ⟨g, cap, cur, rfl, b, c, d⟩
  · simp [Value.ownBlock] at e1
  · simp [Value.ownBlock] at e1
    subst e1
    rw [hk] at c; cases c

theorem own_some {w : World} {base : Nat} {e : TypeId} {size : Nat} {v : Value} {n : Nat} {xs : List Value} (h : w.ownsRow base e size v (n + 1) xs) : ∃ g cap, v = .slice (some ⟨g, 0, none⟩) (n + 1) cap ∧ base ≤ g ∧ n + 1 ≤ cap := by
  rcases h.2 with ⟨_, h0⟩ | ⟨g, cap, cur, hv, hb, _, hc, _⟩
  · omega
  · exact ⟨g, cap, hv, hb, hc⟩

theorem encode_byte (c : UInt8) (h : c.toNat < 128) : Utf8.encode (c.toNat : Int) = ⟨#[c]⟩ := by
  have hv : Utf8.valid (c.toNat : Int) = true := by unfold Utf8.valid; simp; omega
  unfold Utf8.encode
  rw [if_pos hv]
  simp [h]

theorem str_add (a b : List UInt8) : ((⟨a.toArray⟩ : ByteArray) ++ ⟨b.toArray⟩) = ⟨(a ++ b).toArray⟩ := by
  apply ByteArray.ext
  simp

def SplitPost (s : ByteArray) (w : World) (e : Ending) (w' : World) : Prop :=
  (match Rem.split s.data.toList with
   | some l => ∃ v, e = .returned (.tuple #[v, .bool true]) ∧ w'.ownsRow w.heap.size 9 1 v l.length (strVs l)
   | none => e = .returned (.tuple #[.slice none 0 0, .bool false])) ∧ Below w.heap.size w w'
theorem SplitPost.no {s : ByteArray} {w w' : World} (h : Rem.split s.data.toList = none) (hb : Below w.heap.size w w') : SplitPost s w (.returned (.tuple #[.slice none 0 0, .bool false])) w' := by
  unfold SplitPost; rw [h]; exact ⟨rfl, hb⟩
theorem SplitPost.yes {s : ByteArray} {w w' : World} {l : List Rem.Str} {v : Value} (h : Rem.split s.data.toList = some l) (hv : w'.ownsRow w.heap.size 9 1 v l.length (strVs l)) (hb : Below w.heap.size w w') : SplitPost s w (.returned (.tuple #[v, .bool true])) w' := by
  unfold SplitPost; rw [h]; exact ⟨⟨v, rfl, hv⟩, hb⟩

set_option maxRecDepth 1000000 in
set_option maxHeartbeats 300000 in
theorem split_any (s : ByteArray) (w : World) (hs : s.size ≤ 1000000) :
    Calls Tryz.prog 31 #[.string s] w (SplitPost s w) := by
  obtain ⟨i0, hi, hz0, hz1, hz2⟩ := info_parts info_str
  go_enter Tryz.func31, Tryz.ntmps31
  go_wp2
  go_loopw [4] (fun v wr => ∃ (pos : Nat) (acc : List Rem.Str), wr.heap[w.heap.size + 1]? = some (.stringIter s pos) ∧ wr.ownsRow (w.heap.size) 9 1 v acc.length (strVs acc) ∧ Below w.heap.size w wr ∧ pos ≤ s.size ∧ Kept (acc = Rem.soFar s.data.toList pos) ∧ Kept ((s.data.toList.take pos).all Rem.plainByte = true)) (fun _ wr => s.size - wr.iterPos (w.heap.size + 1))
  case atStart =>
    refine ⟨0, [[]], ?_, ?_, ?_, by omega, ⟨by rw [Rem.soFar_zero]⟩, ⟨by simp⟩⟩
    · have := World.iter_heap (w.alloc (Obj.cells #[Value.string { data := #[] }] 9)) s 0
      simpa using this
    · exact (World.ownsRow_lit w #[.string ⟨#[]⟩] 1 (Nat.le_refl _) (by decide) rfl).alloc _
    · exact ((Below.refl _ _).alloc (Nat.le_refl _) _).alloc (by simp) _
  case round =>
    obtain ⟨pos, acc, hit, hown, hbw, hle, ⟨hacc⟩, ⟨hall⟩⟩ := hrel
    have hpos0 := iterPos_of hit
    have hne : acc ≠ [] := by rw [hacc]; exact Rem.soFar_ne _ _
    have hal : acc.length ≤ pos + 1 := by rw [hacc]; exact Rem.soFar_len _ _
    have Hwd : Kept (∀ x ∈ acc, x.length ≤ pos) := ⟨by rw [hacc]; exact Rem.soFar_word _ _⟩
    by_cases hp : pos < s.size
    · have hnx : ∀ ty, (Instr.next (.pointer (some ⟨w.heap.size + 1, 0, none⟩)) true ty).run Tryz.prog wr = _ := fun ty => Lib.run_next_any_at wr (w.heap.size + 1) s pos ty hit hp
      by_cases ha : (s[pos]'hp).toNat < 128
      · rw [decode_ascii s pos hp ha] at hnx
        obtain ⟨c, hc⟩ : ∃ c, c = s[pos]'hp := ⟨_, rfl⟩
        have hcl : s.data.toList[pos]'(by simpa using hp) = c := by rw [hc]; rfl
        rw [← hc] at hnx ha
        have hsucc : Rem.soFar s.data.toList (pos + 1) = Rem.growW acc c := by rw [Rem.soFar_succ _ _ (by simpa using hp), ← hacc, hcl]
        have hallc : (s.data.toList.take (pos + 1)).all Rem.plainByte = Rem.plainByte c := by
          rw [List.take_succ_eq_append_getElem (by simpa using hp), List.all_append, hall, hcl]; simp
        have hit2 := Lib.iterAt_heap wr (w.heap.size + 1) s pos (pos + 1) hit
        have hbw2 := Lib.below_iterAt hbw (k := w.heap.size + 1) (by omega) s (pos + 1)
        have hown2 := ownsRow_iterAt' hown hit (pos + 1)
        obtain ⟨W1, hW1⟩ : ∃ W1, W1 = wr.iterAt (w.heap.size + 1) s (pos + 1) := ⟨_, rfl⟩
        rw [← hW1] at hnx hit2 hbw2 hown2
        have hBlt := lt_of_block hit2
        have Hne : Kept (acc ≠ []) := ⟨hne⟩
        have Hs := Kept.mk hsucc
        have Hcl := Kept.mk hcl
        have Ha := Kept.mk hallc
        clear hW1 hit hown hbw hc hcl hsucc hallc hne hacc hall
        by_cases c32 : c.toNat = 32
        · have t1 : (((c.toNat : Nat) : Int) == 32) = true := by simp [c32]
          have Hc := Kept.mk c32
          clear c32
          go_wp2_with (first
            | (at_builtin; refine wpList_append_own _ rfl _ _ 30 rfl (w.heap.size) 9 i0 (.string ⟨#[]⟩) 1 16 Tryz.underlying30 hi hz0 hz1 hz2 rfl (by decide) _ _ _ rfl (hown2.alloc _) ⟨W1.heap.size, 0, none⟩ 1 1 [.string ⟨#[]⟩] rfl rfl (cell_one_new _ _ _) (by simp [Value.oneCell']) (by unfold maxLen; omega) (by omega) (by simp; omega) ?_; intro v' w3 hown' hgrow3 hnil3
               have hit3 : w3.heap[w.heap.size + 1]? = some (.stringIter s (pos + 1)) := by
                 rw [hgrow3.block (w.heap.size + 1) (by simp; omega) (own_ne_iter hown2 hit2), Below.heap_alloc _ _ _ hBlt]; exact hit2
               have hbw3 : Below w.heap.size w w3 := Below.grown (hbw2.alloc (by omega) _) hgrow3 (by simp; omega) (fun j hj => (hown2.lt _ hj).1)
               have X : Kept (w3.ownsRow (w.heap.size) 9 1 v' (acc.length + 1) (strVs acc ++ [.string ⟨#[]⟩]) ∧ w3.heap[w.heap.size + 1]? = some (.stringIter s (pos + 1)) ∧ Below w.heap.size w w3) := ⟨hown', hit3, hbw3⟩
               clear hown' hgrow3 hnil3 hit3 hbw3))
          go_roundw
          case rel =>
            have e1 : Rem.growW acc c = acc ++ [[]] := by simp [Rem.growW, Hc.out]
            refine ⟨pos + 1, acc ++ [[]], X.out.2.1, ?_, X.out.2.2, by omega, ⟨by rw [Hs.out, e1]⟩, ⟨by rw [Ha.out]; simp [Rem.plainByte, Hc.out]⟩⟩
            have := X.out.1
            simpa [strVs] using this
          case measure => rw [iterPos_of X.out.2.1, hpos0]; omega
        · have t1 : (((c.toNat : Nat) : Int) == 32) = false := by simp; omega
          have Hc := Kept.mk c32
          clear c32
          by_cases c33 : 33 ≤ c.toNat ∧ c.toNat ≤ 126
          · obtain ⟨c1, c2⟩ := c33
            have d1 : (33 : Int) ≤ (c.toNat : Int) := by omega
            have d2 : (c.toNat : Int) ≤ 126 := by omega
            obtain ⟨pre, last, hpl⟩ : ∃ pre last, acc = pre ++ [last] := ⟨acc.dropLast, acc.getLast Hne.out, (List.dropLast_concat_getLast Hne.out).symm⟩
            rw [hpl] at hown2 hal Hs Hwd
            have hlast := Hwd.out last (by simp)
            have Hpl := Kept.mk hpl
            clear hpl
            simp only [List.length_append, List.length_cons, List.length_nil, Nat.zero_add] at hown2 hal
            obtain ⟨g, cap, hv, hg1, hg3⟩ := own_some hown2
            rw [hv] at hown2 ⊢
            clear hv
            have ct : W1.cell? ⟨g, pre.length, none⟩ = some (.string ⟨last.toArray⟩) := by
              rw [hown2.cellAt pre.length (by omega)]; simp [strVs]
            have fz := hown2.frozenAt pre.length
            have st := Kept.mk (hown2.stored pre.length (.string (⟨last.toArray⟩ ++ ⟨#[c]⟩)))
            have ix1 : (pre.length : Int) < (pre.length : Int) + 1 := by omega
            have henc := encode_byte c ha
            have Hit := Kept.mk hit2
            have Hbw := Kept.mk hbw2
            have Hown := Kept.mk hown2
            clear hit2 hbw2 hown2
            go_wp2
            obtain ⟨⟨st1, st2⟩⟩ := st
            obtain ⟨⟨hit2⟩, ⟨hbw2⟩, ⟨hown2⟩, ⟨Hc⟩⟩ := And.intro Hit (And.intro Hbw (And.intro Hown Hc))
            have hit3 : (W1.setCell ⟨g, pre.length, none⟩ (.string (⟨last.toArray⟩ ++ ⟨#[c]⟩))).heap[w.heap.size + 1]? = some (.stringIter s (pos + 1)) := by
              rw [st2.block _ hBlt (own_ne_iter hown2 hit2)]; exact hit2
            refine ⟨?rel, ?measure⟩
            case rel =>
              have e1 : Rem.growW (pre ++ [last]) c = pre ++ [last ++ [c]] := by simp [Rem.growW, Hc]
              refine ⟨pos + 1, pre ++ [last ++ [c]], hit3, ?_, hbw2.setCell hg1 _, by omega, ⟨by rw [Hs.out, e1]⟩, ⟨by rw [Ha.out]; simp [Rem.plainByte]; omega⟩⟩
              have e2 : (strVs (pre ++ [last])).set pre.length (.string (⟨last.toArray⟩ ++ ⟨#[c]⟩)) = strVs (pre ++ [last ++ [c]]) := by
                simp [strVs, str_add]
              rw [e2] at st1
              simpa using st1
            case measure => rw [iterPos_of hit3, hpos0]; omega
          · have hno : Rem.split s.data.toList = none := by
              refine Rem.split_bad _ pos (by simpa using hp) ?_
              rw [Hcl.out]
              have := Hc.out
              simp [Rem.plainByte]
              omega
            have Hno := Kept.mk hno
            clear hno
            by_cases d1 : (33 : Int) ≤ (c.toNat : Int)
            · have d2 : ¬ (c.toNat : Int) ≤ 126 := by omega
              go_wp2
              go_ret2
              exact SplitPost.no Hno.out hbw2
            · go_wp2
              go_ret2
              exact SplitPost.no Hno.out hbw2
      · have hd := decode_high s pos hp (by omega)
        have hno : Rem.split s.data.toList = none := by
          refine Rem.split_bad _ pos (by simpa using hp) ?_
          have e : s.data.toList[pos]'(by simpa using hp) = s[pos]'hp := rfl
          rw [e]
          simp [Rem.plainByte]
          omega
        have hbw2 := Lib.below_iterAt hbw (k := w.heap.size + 1) (by omega) s (pos + (Utf8.decode s pos).2)
        obtain ⟨W1, hW1⟩ : ∃ W1, W1 = wr.iterAt (w.heap.size + 1) s (pos + (Utf8.decode s pos).2) := ⟨_, rfl⟩
        rw [← hW1] at hnx hbw2
        obtain ⟨q, hq⟩ : ∃ q, q = (Utf8.decode s pos).1 := ⟨_, rfl⟩
        rw [← hq] at hnx hd
        have hd1 : (128 : Int) ≤ (q : Int) := by omega
        have t1 : (((q : Nat) : Int) == 32) = false := by simp; omega
        clear hW1 hq hd hit hown hbw hacc hall hne hal Hwd
        have Hno := Kept.mk hno
        clear hno
        go_wp2
        go_ret2
        exact SplitPost.no Hno.out hbw2
    · have hnx : ∀ ty, (Instr.next (.pointer (some ⟨w.heap.size + 1, 0, none⟩)) true ty).run Tryz.prog wr = _ := fun ty => Lib.run_next_end_at wr (w.heap.size + 1) s pos ty hit hp
      have hpos : pos = s.size := by omega
      have hsp := Rem.split_good s.data.toList (by rw [← hall, List.take_of_length_le (by simp; omega)])
      have hcut : acc = Rem.cut32 s.data.toList := by rw [hacc, Rem.soFar_all _ _ (by simp; omega)]
      rw [← hcut] at hsp
      have Hsp := Kept.mk hsp
      clear hsp hcut hacc hall hpos0
      obtain ⟨n, hn⟩ : ∃ n, acc.length = n + 1 := ⟨acc.length - 1, by have := List.length_pos_iff.2 hne; omega⟩
      have hown0 := hown
      rw [hn] at hown
      obtain ⟨g, cap, hv, hg1, hg3⟩ := own_some hown
      rw [hv] at hown hown0 ⊢
      have Hown := Kept.mk hown0
      have Hn := Kept.mk hn
      have hnb : n ≤ 1000001 := by omega
      clear hv hit hne hal Hwd hpos hn hown0
      go_wp2
      go_loop [40] (fun i => ∃ k : Nat, k ≤ n + 1 ∧ i = .int .i64 k ∧ Kept (∀ j x, j < k → acc[j]? = some x → x ≠ [])) (fun i => n + 1 - (intOf i).toNat)
      case atStart => exact ⟨0, by omega, rfl, ⟨fun j x h => by omega⟩⟩
      case round =>
        obtain ⟨k, hk, rfl, ⟨hall⟩⟩ := hrel
        by_cases hlt : k < n + 1
        · obtain ⟨x, hx⟩ : ∃ x, acc[k]? = some x := ⟨acc[k]'(by rw [Hn.out]; omega), List.getElem?_eq_getElem _⟩
          have ct : wr.cell? ⟨g, k, none⟩ = some (.string ⟨x.toArray⟩) := by
            rw [hown.cellAt k (by omega)]; simp [strVs, hx]
          have Hx := Kept.mk hx
          clear hx hown
          by_cases hxe : x = []
          · have Hsp2 : Kept (Rem.split s.data.toList = none) := ⟨by
              rw [Hsp.out, if_neg]
              simp only [List.all_eq_true]
              intro hq
              have := hq x (List.mem_of_getElem? Hx.out)
              simp [hxe] at this⟩
            rw [hxe] at ct
            clear Hx hxe hall Hsp
            go_wp2
            go_ret2
            exact SplitPost.no Hsp2.out hbw
          · have t1 : x.isEmpty = false := by simpa using hxe
            have Hxe := Kept.mk hxe
            have Hall := Kept.mk hall
            clear hxe hall
            go_wp2
            go_round
            case rel =>
              refine ⟨k + 1, by omega, by go_num, ⟨fun j y hj hy => ?_⟩⟩
              by_cases hjk : j = k
              · subst hjk
                rw [Hx.out] at hy
                cases hy
                exact Hxe.out
              · exact Hall.out j y (by omega) hy
            case measure => simp [intOf]; omega
        · have hkn : k = n + 1 := by omega
          have Hsp2 : Kept (Rem.split s.data.toList = some acc) := ⟨by
            rw [Hsp.out, if_pos]
            simp only [List.all_eq_true]
            intro x hx
            obtain ⟨j, hj, rfl⟩ := List.getElem_of_mem hx
            have := hall j _ (by rw [hkn, ← Hn.out]; exact hj) (List.getElem?_eq_getElem hj)
            simpa using this⟩
          subst hkn
          clear hall hown Hsp
          go_wp2
          go_ret2
          exact SplitPost.yes Hsp2.out Hown.out hbw
end Go.Proofs.YtdlieanhdbbhiaaGreatDoor
