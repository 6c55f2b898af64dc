/- Walk: script.write, of every op. -/
import Derived.Test.YtdlieanhdbbhiaaGreatDoorRound
import Derived.Test.YtdlieanhdbbhiaaGreatDoorKinds
import Derived.Test.YtdlieanhdbbhiaaGreatDoorRow
import Derived.Test.YtdlieanhdbbhiaaGreatDoorTellPure
import Derived.Maps.RangeWalk
import Derived.Maps.StringElems
import Derived.Deep.RegionHeld3
import Derived.Deep.AppendLies
import Derived.Deep.DeepCutAuto
import Derived.Deep.CutBlock
import Derived.Deep.Heap
set_option linter.unusedVariables false
set_option linter.unusedSimpArgs false
namespace Go.Proofs.YtdlieanhdbbhiaaGreatDoor
open Go.RowKit Go.WideMaps Go.Maps

theorem keyOf_string_inv {P : Program} {k : TypeId} (hk : P.underlying k = some .string) {key : Value} {kl : Lit} (h : keyOf P k key = some kl) : ∃ x : ByteArray, key = .string x ∧ kl = .string x.data.toList := by
  cases key <;> simp [keyOf, hk, mapKey] at h
  exact ⟨_, rfl, h.2.symm⟩

/-- the step of a range over a map of string keys and integer elements -/
theorem wpList_next_ranges_si {H : Type} {P : Program} (w : World) {ops : Array Oper} {rest : List Oper} {o : Oper} {a : Act} {Q : Exit → Act → World → Prop}
    (hg : o.guard = none) (it : Operand) (hop : o.op = Op.next it false) (k e : TypeId) (qe : IntKind) (K : Keyed P k) (hk : P.underlying k = some .string) (he : P.underlying e = some (.int qe))
    (b r n : Nat) (D : DataW H) (left : Lit → Bool) (cnt : Nat) (hit : a.eval it = .pointer (some ⟨r, 0, none⟩)) (h : w.ranges P k (plainElem P e) b r n D left cnt)
    (hDone : cnt = 0 → (∀ kl, left kl = false) → wpList P ops Q rest (a.put o.dst (.tuple #[.bool false])) w)
    (hMore : ∀ (x : ByteArray) (c : Int) (w' : World) (cnt' : Nat), left (.string x.data.toList) = true → (∀ zd, D.atKey (.string x.data.toList) zd = .lit (.int qe c)) → w'.ranges P k (plainElem P e) b r n D (fun z => left z && !z.sameKey (.string x.data.toList)) cnt' → cnt' < cnt →
      w.grownBy w' (some r) → w'.heap.size = w.heap.size → (Instr.entry (.pointer (some ⟨r, 0, none⟩))).run P w' = .ok (.tuple #[.string x, .int qe c]) w' → wpList P ops Q rest (a.put o.dst (.tuple #[.bool true, .string x, .int qe c])) w') :
    wpList P ops Q (o :: rest) a w :=
  wpList_next_ranges w hg it hop k K (plainElem P e) Value.string (Value.int qe) (fun key kl hkey => by obtain ⟨x, rfl, _⟩ := keyOf_string_inv hk hkey; exact ⟨x, rfl⟩) (fun v y hv => by obtain ⟨c, rfl, _⟩ := plainElem_int_inv he hv; exact ⟨c, rfl⟩)
    b r n D left cnt hit h hDone (fun x c kl y w' cnt' hkey hlk hv hat hrg hlt hgr hsz hen => by
      obtain ⟨x', ex, rfl⟩ := keyOf_string_inv hk hkey
      cases ex
      obtain ⟨c', ec, rfl, hwc⟩ := plainElem_int_inv he hv
      cases ec
      exact hMore x c w' cnt' hlk hat hrg hlt hgr hsz hen)

theorem kinds_key (w : Rem.Str) (zd : DataW Unit) : kd7.atKey (.string w) zd = if Rem.kindOf w = 0 then zd else i64 (Rem.kindOf w) := by
  have m0 : IsMap kd0 := isMap_empty
  have m1 : IsMap kd1 := m0.put _ _
  have m2 : IsMap kd2 := m1.put _ _
  have m3 : IsMap kd3 := m2.put _ _
  have m4 : IsMap kd4 := m3.put _ _
  have m5 : IsMap kd5 := m4.put _ _
  have m6 : IsMap kd6 := m5.put _ _
  have one : ∀ (D : DataW Unit) (k : Rem.Str) (d : DataW Unit), IsMap D → (D.put (.string k) d).atKey (.string w) zd = if w = k then d else D.atKey (.string w) zd := by
    intro D k d hD
    by_cases h : w = k
    · subst h
      rw [if_pos rfl]
      exact atKey_put_same hD (key_lit _) _ _
    · rw [if_neg h]
      exact atKey_put_other (by simpa using h) _ _
  unfold kd7; rw [one _ _ _ m6]
  unfold kd6; rw [one _ _ _ m5]
  unfold kd5; rw [one _ _ _ m4]
  unfold kd4; rw [one _ _ _ m3]
  unfold kd3; rw [one _ _ _ m2]
  unfold kd2; rw [one _ _ _ m1]
  unfold kd1; rw [one _ _ _ m0]
  have e0 : kd0.atKey (.string w) zd = zd := rfl
  rw [e0]
  unfold Rem.kindOf
  by_cases h7 : w = [108, 111, 111, 107]
  · subst h7; rfl
  · by_cases h6 : w = [103, 105, 118, 101, 117, 112]
    · subst h6; rfl
    · by_cases h5 : w = [99, 111, 109, 112, 108, 101, 116, 101]
      · subst h5; rfl
      · by_cases h4 : w = [102, 101, 116, 99, 104]
        · subst h4; rfl
        · by_cases h3 : w = [116, 105, 99, 107]
          · subst h3; rfl
          · by_cases h2 : w = [98, 101, 103, 105, 110]
            · subst h2; rfl
            · by_cases h1 : w = [100, 101, 112, 108, 111, 121]
              · subst h1; rfl
              · simp [h1, h2, h3, h4, h5, h6, h7]
/-- an entry of the map: its key is a word, its element that word's kind -/
theorem kinds_entry {w : Rem.Str} {c : Int} (h : ∀ zd, kd7.atKey (.string w) zd = .lit (.int .i64 c)) : Rem.kindOf w = c ∧ c ≠ 0 ∧ Rem.wordOf c = w := by
  by_cases h0 : Rem.kindOf w = 0
  · have a1 := h (i64 0)
    have a2 := h (i64 1)
    rw [kinds_key, if_pos h0] at a1 a2
    rw [← a2] at a1
    cases a1
  · have a1 := h (i64 0)
    rw [kinds_key, if_neg h0] at a1
    have e : Rem.kindOf w = c := by injection a1 with a1; injection a1
    exact ⟨e, by rw [← e]; exact h0, by rw [← e]; exact Rem.kindOf_word h0⟩

/-- the word that was found so far -/
def found (k : Int) (left : Lit → Bool) : Rem.Str := if left (.string (Rem.wordOf k)) = true then [] else Rem.wordOf k
theorem found_start (k : Int) : found k (Maps.has kd7) = [] := by
  unfold found
  by_cases h : Rem.wordOf k = []
  · simp [h]
  · have hk := Rem.word_kindOf h
    have hh : Maps.has kd7 (.string (Rem.wordOf k)) = true := by
      unfold Rem.wordOf at h ⊢
      repeat' split
      all_goals first | decide | (simp_all; done)
    rw [if_pos hh]
theorem found_end {k : Int} {left : Lit → Bool} (h : ∀ kl, left kl = false) : found k left = Rem.wordOf k := by
  unfold found
  rw [h]; rfl
theorem found_hit {k : Int} {left : Lit → Bool} {x : Rem.Str} (h : Rem.wordOf k = x) : found k (fun z => left z && !z.sameKey (.string x)) = x := by
  unfold found
  rw [h]
  have : (left (.string x) && !(Lit.string x).sameKey (.string x)) = false := by simp [Lit.sameKey]
  rw [if_neg (by simp [this])]
theorem found_miss {k : Int} {left : Lit → Bool} {x : Rem.Str} (h : Rem.wordOf k ≠ x) : found k (fun z => left z && !z.sameKey (.string x)) = found k left := by
  unfold found
  have : (Lit.string (Rem.wordOf k)).sameKey (.string x) = false := by simp [Lit.sameKey, h]
  simp [this]

abbrev opCells (o : Rem.Op) (v : Value) : Array Value := #[.int .i64 o.kind, .int .i64 o.id, .int .u64 o.n, .string ⟨o.text.toArray⟩, v]
def opFits (o : Rem.Op) : Prop := IntOk o.kind ∧ IntOk o.id ∧ o.n < 18446744073709551616 ∧ o.text.length ≤ 100000 ∧ o.sets.length ≤ 1000 ∧ ∀ x ∈ o.sets, IntOk x.1 ∧ IntOk x.2
def SetsAt (w : World) (a : Option Addr) (l : List (Int × Int)) : Prop := ∀ (j : Nat) (x : Int × Int), l[j]? = some x → ∃ g p, a = some ⟨g, p, none⟩ ∧ w.cell? ⟨g, p + j * 2, none⟩ = some (.int .i64 x.1) ∧ w.cell? ⟨g, p + j * 2 + 1, none⟩ = some (.int .i64 x.2)

/-- strings.Join of a row of the call's own -/
theorem join_own (w : World) (B n : Nat) (v : Value) (l : List Rem.Str) (hn : l.length = n + 1) (hn1 : n ≤ 1000000) (hown : w.ownsRow B 9 1 v (n + 1) (strVs l)) (hlen : (Lib.join l [32]).length ≤ 140737488355328) :
    Calls Tryz.prog 22 #[v, .string ⟨#[32]⟩] w fun e w' => e = .returned (.string ⟨(Lib.join l [32]).toArray⟩) ∧ Below w.heap.size w w' := by
  obtain ⟨g, cap, rfl, hg, hcap⟩ := own_some hown
  have hl : (l.map fun x => (⟨x.toArray⟩ : ByteArray)).length = n + 1 := by simp [hn]
  have hmap : (l.map fun x => (⟨x.toArray⟩ : ByteArray)).map (·.data.toList) = l := by simp [Function.comp_def]
  have := Tryz.strings_Join g 0 cap (l.map fun x => (⟨x.toArray⟩ : ByteArray)) ⟨#[32]⟩ w (fun j x hx => by
      have hjl : j < n + 1 := by have := (List.getElem?_eq_some_iff.1 hx).1; omega
      rw [Nat.zero_add, hown.cellAt j (by simp [strVs, hn]; omega)]
      rw [List.getElem?_map] at hx
      obtain ⟨z, hz, rfl⟩ := Option.map_eq_some_iff.1 hx
      simp [strVs, hz]) (hown.lt g rfl).2 (by rw [hl]; omega) (by rw [hl]; exact hcap) (by rw [hmap]; exact hlen)
  rw [hmap, hl] at this
  exact this
theorem join_le (l : List Rem.Str) (m : Nat) (h : ∀ x ∈ l, x.length ≤ m) : (Lib.join l [32]).length ≤ (m + 1) * l.length := by
  cases l with
  | nil => simp [Lib.join_nil]
  | cons x r =>
    induction r generalizing x with
    | nil => have := h x (by simp); rw [Lib.join_one]; simp; omega
    | cons y r ih =>
      have hx := h x (by simp)
      have := ih y (fun z hz => h z (List.mem_cons_of_mem _ hz))
      rw [Lib.join_cons] at this ⊢
      simp only [Lib.joinTail, List.map_cons, List.flatten_cons, List.length_append, List.length_cons, List.length_nil] at this ⊢
      rw [Nat.mul_add]
      omega
theorem kinds_map_ne {w : World} {b B n : Nat} {g : Nat} {cap : Nat} {xs : List Value} (h : KindsAt w b) (ho : w.ownsRow B 9 1 (.slice (some ⟨g, 0, none⟩) (n + 1) cap) (n + 1) xs) : b ≠ g := by
  obtain ⟨es, clock, h1, _⟩ := h
  rcases ho.2 with ⟨e, _⟩ | ⟨g2, cap2, cur, hv, _, hh, _⟩
  · cases e
  · injection hv with h2
    injection h2 with h2
    intro e
    injection h2 with h2
    subst h2
    rw [e, hh] at h1
    cases h1

theorem two_next {W0 W W' : World} {a0 a1 : Addr} {v0 v1 : Value} (h : W.cell? a0 = some v0 ∧ W.cell? a1 = some v1 ∧ Below W0.heap.size W0 W) (hb : Below W.heap.size W W') : W'.cell? a0 = some v0 ∧ W'.cell? a1 = some v1 ∧ Below W0.heap.size W0 W' :=
  ⟨cell_later' hb h.1, cell_later' hb h.2.1, bl_c hb h.2.2⟩
theorem two_a {W0 W : World} {o : Obj} {a0 a1 : Addr} {v0 v1 : Value} (h : W.cell? a0 = some v0 ∧ W.cell? a1 = some v1 ∧ Below W0.heap.size W0 W) : (W.alloc o).cell? a0 = some v0 ∧ (W.alloc o).cell? a1 = some v1 ∧ Below W0.heap.size W0 (W.alloc o) := two_next h ((Below.refl _ _).alloc (Nat.le_refl _) _)
theorem two_d {W0 W : World} {a0 a1 : Addr} {v0 v1 : Value} (h : W.cell? a0 = some v0 ∧ W.cell? a1 = some v1 ∧ Below W0.heap.size W0 W) : W.drew.cell? a0 = some v0 ∧ W.drew.cell? a1 = some v1 ∧ Below W0.heap.size W0 W.drew := two_next h (below_drew0 _ _)
theorem two_g {W0 W W' : World} {row : Option Nat} {a0 a1 : Addr} {v0 v1 : Value} (h : W.cell? a0 = some v0 ∧ W.cell? a1 = some v1 ∧ Below W0.heap.size W0 W) (hg : W.grownBy W' row) (hn : some a0.block ≠ row ∧ some a1.block ≠ row) (hr : ∀ k, row = some k → W0.heap.size ≤ k) : W'.cell? a0 = some v0 ∧ W'.cell? a1 = some v1 ∧ Below W0.heap.size W0 W' :=
  ⟨hg.cell h.1 hn.1, hg.cell h.2.1 hn.2, Below.grown h.2.2 hg h.2.2.size hr⟩
set_option maxRecDepth 1000000 in
set_option maxHeartbeats 4000000 in
theorem write_any (w : World) (o : Rem.Op) (ho : Kept (opFits o)) (a : Option Addr) (cap : Nat) (hG : Kept (Glob w)) (hS : Kept (SetsAt w a o.sets)) :
    Calls Tryz.prog 24 #[.agg (opCells o (.slice a o.sets.length cap))] w fun e w' => e = .returned (.string ⟨(Rem.writeText o).toArray⟩) ∧ Below w.heap.size w w' := by
  obtain ⟨i0, hi, hz0, hz1, hz2⟩ := info_parts info_str
  go_enter Tryz.func24, Tryz.ntmps24
  have hown0 : ((w.alloc (.cells (opCells o (.slice a o.sets.length cap)) 40)).alloc (.cells #[.string ⟨#[]⟩] 9)).ownsRow (w.heap.size + 1) 9 1 (.slice (some ⟨w.heap.size + 1, 0, none⟩) 1 1) 1 (strVs [[]]) := by
    have hsz : (w.alloc (.cells (opCells o (.slice a o.sets.length cap)) 40)).heap.size = w.heap.size + 1 := by simp
    have := World.ownsRow_lit (e := 9) (size := 1) (base := (w.alloc (.cells (opCells o (.slice a o.sets.length cap)) 40)).heap.size) (w.alloc (.cells (opCells o (.slice a o.sets.length cap)) 40)) #[.string ⟨#[]⟩] 1 (Nat.le_refl _) (by decide) rfl
    rw [hsz] at this
    exact this
  have Hown0 := Kept.mk hown0
  clear hown0
  go_wp2_with fail
  refine (kinds_any _).mono ?_
  rintro e w1 ⟨⟨b, rfl, hk⟩, hb1⟩
  have hown1 := pw_kept Hown0.out hb1
  have hbk := kinds_map_ne hk hown1
  have Hop1 : Kept (w1.heap[w.heap.size]? = some (.cells (opCells o (.slice a o.sets.length cap)) 40 (0, 0))) := ⟨by
    rw [hb1.block _ (by simp; omega), Deep.blk_alloc_lt _ _ _ (by simp), Deep.blk_alloc_new]⟩
  have HB1 : Kept (Below (w.heap.size + 1) (w.alloc (.cells (opCells o (.slice a o.sets.length cap)) 40)) w1) := ⟨((Below.refl _ _).alloc (by simp) _).trans (hb1.mono (by simp))⟩
  have hs1 := hb1.size
  have hbl : b < w1.heap.size := by obtain ⟨es, clock, h1, _⟩ := hk; exact (Array.getElem?_eq_some_iff.1 h1).1
  clear hb1
  go_wp2_with (first
    | (at_range; refine wpList_range_own _ rfl _ 84 rfl 9 3 lawS Tryz.underlying84 _ b 7 kd7 rfl hk ?_; intro w2 hrg2 hg2 hs2)
    | fail)
  go_frame
  have HR2 : Kept (w2.ranges Tryz.prog 9 (plainElem (H := Unit) Tryz.prog 3) b w1.heap.size 7 kd7 (Maps.has kd7) (Maps.size kd7)) := ⟨hrg2⟩
  have hb2 : Below w1.heap.size w1 w2 := ⟨hg2.os, hg2.tape, hg2.output, hg2.size, fun k hk => hg2.block k hk (by simp)⟩
  have HO2 : Kept (w2.ownsRow (w.heap.size + 1) 9 1 (.slice (some ⟨w.heap.size + 1, 0, none⟩) 1 1) 1 [.string ⟨(found o.kind (Maps.has kd7)).toArray⟩]) := ⟨by rw [found_start]; exact pw_kept hown1 hb2⟩
  have HB2 := Kept.mk (below_next HB1.out (by simp at hs1 ⊢; omega) hb2)
  have HP2 : Kept (w2.heap[w.heap.size]? = some (.cells (opCells o (.slice a o.sets.length cap)) 40 (0, 0))) := ⟨by rw [hb2.block _ (by simp at hs1; omega)]; exact Hop1.out⟩
  clear hrg2 hg2 hb2 hown1 HB1 Hop1 hk
  go_loopw [4] (fun _ wr => ∃ (left : Lit → Bool) (cnt : Nat), Kept (wr.ranges Tryz.prog 9 (plainElem (H := Unit) Tryz.prog 3) b w1.heap.size 7 kd7 left cnt) ∧ Kept (wr.ownsRow (w.heap.size + 1) 9 1 (.slice (some ⟨w.heap.size + 1, 0, none⟩) 1 1) 1 [.string ⟨(found o.kind left).toArray⟩]) ∧ Kept (Below (w.heap.size + 1) (w.alloc (.cells (opCells o (.slice a o.sets.length cap)) 40)) wr) ∧ Kept (wr.heap[w.heap.size]? = some (.cells (opCells o (.slice a o.sets.length cap)) 40 (0, 0)))) (fun _ wr => wr.rangeLeft b w1.heap.size)
  case atStart => exact ⟨_, _, HR2, HO2, HB2, HP2⟩
  case round =>
    obtain ⟨left, cnt, HR, HO, HB, HP⟩ := hrel
    clear HR2 HO2 HB2 HP2
    have hrg := HR.out
    go_wp2_with (first
      | (at_next; refine wpList_next_ranges_si _ rfl _ rfl 9 3 .i64 lawS Tryz.underlying9 Tryz.underlying3 b w1.heap.size 7 kd7 _ _ rfl hrg ?_ ?_)
      | fail)
    · intro _ hl0
      have hf : found o.kind left = Rem.wordOf o.kind := found_end hl0
      have HO2 : Kept (wr.ownsRow (w.heap.size + 1) 9 1 (.slice (some ⟨w.heap.size + 1, 0, none⟩) 1 1) 1 (strVs [Rem.wordOf o.kind])) := ⟨by rw [← hf]; exact HO.out⟩
      have HBw : Kept (Below w.heap.size w wr) := ⟨((Below.refl _ _).alloc (Nat.le_refl _) _).trans (HB.out.mono (by omega))⟩
      have HGr : Kept (Glob wr) := ⟨hG.out.later HBw.out⟩
      have hsr := HB.out.size
      simp at hsr
      obtain ⟨f1, f2, f3, f4, f5, f6⟩ := ho.out
      have F6 := Kept.mk f6
      clear f6
      have ck0 : wr.cell? ⟨w.heap.size, 0, none⟩ = some (.int .i64 o.kind) := by simp [World.cell?, HP.out]
      have ck1 : wr.cell? ⟨w.heap.size, 1, none⟩ = some (.int .i64 o.id) := by simp [World.cell?, HP.out]
      have ck2 : wr.cell? ⟨w.heap.size, 2, none⟩ = some (.int .u64 o.n) := by simp [World.cell?, HP.out]
      have ck3 : wr.cell? ⟨w.heap.size, 3, none⟩ = some (.string ⟨o.text.toArray⟩) := by simp [World.cell?, HP.out]
      have ck4 : wr.cell? ⟨w.heap.size, 4, none⟩ = some (.slice a o.sets.length cap) := by simp [World.cell?, HP.out]
      clear hf hl0 hrg HR HO
      have hwl := Rem.word_len o.kind
      by_cases h1 : o.kind = 1
      · have hcb : Lib.countByte o.text 10 ≤ o.text.length := List.count_le_length
        have T : Kept (Rem.writeText o = (Lib.join [Rem.wordOf o.kind, Lib.itoa (Lib.countByte o.text 10)] [32] ++ [10]) ++ o.text) := ⟨by unfold Rem.writeText Rem.argsOf Rem.tailOf; rw [if_pos h1, if_pos h1]⟩
        have t1 : (o.kind == 1) = true := by simp [h1]
        clear h1
        go_wp2_with fail
        refine (Tryz.strings_Count_one ⟨o.text.toArray⟩ 10 _).mono ?_
        intro e w2 hp2
        obtain ⟨rfl, hw2⟩ := hp2
        rw [hw2]
        clear hw2
        go_wp2_with fail
        refine (itoa_any _ (by omega) (by omega) _ HGr.out).mono ?_
        rintro e w4 ⟨rfl, hb4⟩
        have hil := Lib.itoa_length_le ((Lib.countByte o.text 10 : Nat) : Int) (by omega) (by omega)
        have hs4 := hb4.size
        have hown4 := pw_kept HO2.out hb4
        go_wp2_with (first
          | (at_builtin; refine wpList_append_own _ rfl _ _ 30 rfl (w.heap.size + 1) 9 i0 (.string ⟨#[]⟩) 1 16 Tryz.underlying30 hi hz0 hz1 hz2 rfl (by decide) _ _ _ rfl (hown4.alloc _) ⟨w4.heap.size, 0, none⟩ 1 1 [.string ⟨(Lib.itoa (Lib.countByte o.text 10)).toArray⟩] rfl rfl (cell_one_new _ _ _) (by simp [Value.oneCell']) (by unfold maxLen; omega) (by omega) (by simp; omega) ?_; intro v5 w5 hown5 hgrow5 hnil5; have hb5 : Below (w.heap.size + 1) wr w5 := Below.grown ((hb4.mono (by omega)).alloc (by omega) _) hgrow5 (by simp; omega) (fun j hj => (hown4.lt _ hj).1); have hop5 : w5.heap[w.heap.size]? = some (.cells (opCells o (.slice a o.sets.length cap)) 40 (0, 0)) := (by rw [hb5.block _ (by omega)]; exact HP.out); have ct : w5.cell? ⟨w.heap.size, 3, none⟩ = some (.string ⟨o.text.toArray⟩) := (by simp [World.cell?, hop5])))
        have HO5 : Kept (w5.ownsRow (w.heap.size + 1) 9 1 v5 (1 + 1) (strVs [Rem.wordOf o.kind, Lib.itoa (Lib.countByte o.text 10)])) := ⟨by simpa [strVs] using hown5⟩
        have HB5 : Kept (Below w.heap.size w w5) := ⟨HBw.out.trans (hb5.mono (by omega))⟩
        have hs5 := hb5.size
        have hjl : (Lib.join [Rem.wordOf o.kind, Lib.itoa (Lib.countByte o.text 10)] [32]).length ≤ 100 := by
          rw [Rem.join_two, Lib.join_one]; simp; omega
        have a1 := add_eq (Lib.join [Rem.wordOf o.kind, Lib.itoa (Lib.countByte o.text 10)] [32]) [10] (by omega) (by decide)
        have a2 := add_eq (Lib.join [Rem.wordOf o.kind, Lib.itoa (Lib.countByte o.text 10)] [32] ++ [10]) o.text (by simp; omega) (by omega)
        have J := Kept.mk (join_own w5 (w.heap.size + 1) 1 v5 _ rfl (by omega) HO5.out (by omega))
        clear hown5 hgrow5 hnil5 hown4 hb4 hb5 ck0 ck1 ck2 ck3 ck4 hcb hil
        generalize hJ : Lib.join [Rem.wordOf o.kind, Lib.itoa (Lib.countByte o.text 10)] [32] = j1 at a1 a2 hjl J T
        generalize hJ2 : j1 ++ [10] = j2 at a1 a2 T
        have T2 : Kept (Rem.writeText o = j2 ++ o.text) := T
        generalize j2 ++ o.text = j3 at a2 T2
        clear hJ hJ2 T
        go_wp2_with fail
        refine J.out.mono ?_
        rintro e w6 ⟨rfl, hb6⟩
        go_wp2_with fail
        go_ret
        exact ⟨congrArg (fun l : Rem.Str => Ending.returned (.string ⟨l.toArray⟩)) T2.out.symm, bl_c hb6 HB5.out⟩
      · by_cases h3 : o.kind = 3
        · have T : Kept (Rem.writeText o = Lib.join [Rem.wordOf o.kind, Lib.decDigits o.n] [32] ++ [10]) := ⟨by unfold Rem.writeText Rem.argsOf Rem.tailOf; rw [if_neg h1, if_pos h3, if_neg h1, List.append_nil]⟩
          have t1 : (o.kind == 1) = false := by simp [h1]
          have t3 : (o.kind == 3) = true := by simp [h3]
          clear h1 h3
          have hdl := dec_len21 o.n f3
          go_wp2_with fail
          refine (formatUint_any o.n f3 _ HGr.out).mono ?_
          rintro e w4 ⟨rfl, hb4⟩
          have hs4 := hb4.size
          have hown4 := pw_kept HO2.out hb4
          go_wp2_with (first
            | (at_builtin; refine wpList_append_own _ rfl _ _ 30 rfl (w.heap.size + 1) 9 i0 (.string ⟨#[]⟩) 1 16 Tryz.underlying30 hi hz0 hz1 hz2 rfl (by decide) _ _ _ rfl (hown4.alloc _) ⟨w4.heap.size, 0, none⟩ 1 1 [.string ⟨(Lib.decDigits o.n).toArray⟩] rfl rfl (cell_one_new _ _ _) (by simp [Value.oneCell']) (by unfold maxLen; omega) (by omega) (by simp; omega) ?_; intro v5 w5 hown5 hgrow5 hnil5))
          have hb5 : Below (w.heap.size + 1) wr w5 := Below.grown ((hb4.mono (by omega)).alloc (by omega) _) hgrow5 (by simp; omega) (fun j hj => (hown4.lt _ hj).1)
          have HO5 : Kept (w5.ownsRow (w.heap.size + 1) 9 1 v5 (1 + 1) (strVs [Rem.wordOf o.kind, Lib.decDigits o.n])) := ⟨by simpa [strVs] using hown5⟩
          have HB5 : Kept (Below w.heap.size w w5) := ⟨HBw.out.trans (hb5.mono (by omega))⟩
          have hs5 := hb5.size
          have hjl : (Lib.join [Rem.wordOf o.kind, Lib.decDigits o.n] [32]).length ≤ 100 := by
            rw [Rem.join_two, Lib.join_one]; simp; omega
          have a1 := add_eq (Lib.join [Rem.wordOf o.kind, Lib.decDigits o.n] [32]) [10] (by omega) (by decide)
          have a2 := add_eq (Lib.join [Rem.wordOf o.kind, Lib.decDigits o.n] [32] ++ [10]) [] (by simp; omega) (by decide)
          have J := Kept.mk (join_own w5 (w.heap.size + 1) 1 v5 _ rfl (by omega) HO5.out (by omega))
          clear hown5 hgrow5 hnil5 hown4 hb4 hb5 ck0 ck1 ck2 ck3 ck4
          generalize hJ : Lib.join [Rem.wordOf o.kind, Lib.decDigits o.n] [32] = j1 at a1 a2 hjl J T
          generalize hJ2 : j1 ++ [10] = j2 at a1 a2 T
          rw [List.append_nil] at a2
          clear hJ hJ2
          go_wp2_with fail
          refine J.out.mono ?_
          rintro e w6 ⟨rfl, hb6⟩
          go_wp2_with fail
          go_ret
          exact ⟨congrArg (fun l : Rem.Str => Ending.returned (.string ⟨l.toArray⟩)) T.out.symm, bl_c hb6 HB5.out⟩
        · by_cases h4 : o.kind = 4
          · have T : Kept (Rem.writeText o = Lib.join [Rem.wordOf o.kind] [32] ++ [10]) := ⟨by unfold Rem.writeText Rem.argsOf Rem.tailOf; rw [if_neg h1, if_neg h3, if_pos h4, if_neg h1, List.append_nil]⟩
            have t1 : (o.kind == 1) = false := by simp [h1]
            have t3 : (o.kind == 3) = false := by simp [h3]
            have t4 : (o.kind == 4) = true := by simp [h4]
            clear h1 h3 h4
            have hjl : (Lib.join [Rem.wordOf o.kind] [32]).length ≤ 100 := by
              rw [Lib.join_one]; omega
            have a1 := add_eq (Lib.join [Rem.wordOf o.kind] [32]) [10] (by omega) (by decide)
            have a2 := add_eq (Lib.join [Rem.wordOf o.kind] [32] ++ [10]) [] (by simp; omega) (by decide)
            have J := Kept.mk (join_own wr (w.heap.size + 1) 0 _ _ rfl (by omega) HO2.out (by omega))
            clear ck1 ck2 ck3 ck4
            generalize hJ : Lib.join [Rem.wordOf o.kind] [32] = j1 at a1 a2 hjl J T
            generalize hJ2 : j1 ++ [10] = j2 at a1 a2 T
            rw [List.append_nil] at a2
            clear hJ hJ2
            go_wp2_with fail
            refine J.out.mono ?_
            rintro e w6 ⟨rfl, hb6⟩
            go_wp2_with fail
            go_ret
            exact ⟨congrArg (fun l : Rem.Str => Ending.returned (.string ⟨l.toArray⟩)) T.out.symm, bl_c hb6 HBw.out⟩
          · have T : Kept (Rem.writeText o = Lib.join (Rem.wordOf o.kind :: Lib.itoa o.id :: o.sets.map Rem.setText) [32] ++ [10]) := ⟨by unfold Rem.writeText Rem.argsOf Rem.tailOf; rw [if_neg h1, if_neg h3, if_neg h4, if_neg h1, List.append_nil]⟩
            have t1 : (o.kind == 1) = false := by simp [h1]
            have t3 : (o.kind == 3) = false := by simp [h3]
            have t4 : (o.kind == 4) = false := by simp [h4]
            clear h1 h3 h4
            have hil := itoa_len o.id f2
            go_wp2_with fail
            refine (itoa_any o.id f2.1 f2.2 _ HGr.out).mono ?_
            rintro e w4 ⟨rfl, hb4⟩
            have hs4 := hb4.size
            have hown4 := pw_kept HO2.out hb4
            go_wp2_with (first
              | (at_builtin; refine wpList_append_own _ rfl _ _ 30 rfl (w.heap.size + 1) 9 i0 (.string ⟨#[]⟩) 1 16 Tryz.underlying30 hi hz0 hz1 hz2 rfl (by decide) _ _ _ rfl (hown4.alloc _) ⟨w4.heap.size, 0, none⟩ 1 1 [.string ⟨(Lib.itoa o.id).toArray⟩] rfl rfl (cell_one_new _ _ _) (by simp [Value.oneCell']) (by unfold maxLen; omega) (by omega) (by simp; omega) ?_; intro v5 w5 hown5 hgrow5 hnil5; have hb5 : Below (w.heap.size + 1) wr w5 := Below.grown ((hb4.mono (by omega)).alloc (by omega) _) hgrow5 (by simp; omega) (fun j hj => (hown4.lt _ hj).1); have hop5 : w5.heap[w.heap.size]? = some (.cells (opCells o (.slice a o.sets.length cap)) 40 (0, 0)) := (by rw [hb5.block _ (by omega)]; exact HP.out); have ct : w5.cell? ⟨w.heap.size, 4, none⟩ = some (.slice a o.sets.length cap) := (by simp [World.cell?, hop5])))
            have HO5 : Kept (w5.ownsRow (w.heap.size + 1) 9 1 v5 (1 + 1) (strVs [Rem.wordOf o.kind, Lib.itoa o.id])) := ⟨by simpa [strVs] using hown5⟩
            have HB5 : Kept (Below w.heap.size w w5) := ⟨HBw.out.trans (hb5.mono (by omega))⟩
            have hs5 := hb5.size
            clear hown5 hgrow5 hnil5 hown4 hb4 hb5 hop5 ck0 ck1 ck2 ck3 ck4
            go_loopw [3, 35] (fun v i wx => ∃ (k : Nat), k ≤ o.sets.length ∧ i = .int .i64 k ∧ Kept (wx.ownsRow (w.heap.size + 1) 9 1 v (k + 2) (strVs (Rem.wordOf o.kind :: Lib.itoa o.id :: (o.sets.take k).map Rem.setText))) ∧ Kept (Below w.heap.size w wx)) (fun _ i _ => o.sets.length - (intOf i).toNat)
            case atStart => exact ⟨0, by omega, rfl, ⟨by simpa using HO5.out⟩, HB5⟩
            case round =>
              obtain ⟨k, hk, rfl, HOk, HBk⟩ := hrel
              have hsk := HBk.out.size
              clear HO5 HB5
              by_cases hlt : k < o.sets.length
              · obtain ⟨x, hx⟩ : ∃ x, o.sets[k]? = some x := ⟨o.sets[k], List.getElem?_eq_getElem _⟩
                obtain ⟨g, p, rfl, hx1, hx2⟩ := hS.out k x hx
                have dx1 := cell_later' HBk.out hx1
                have dx2 := cell_later' HBk.out hx2
                have hxo := F6.out x (List.mem_of_getElem? hx)
                have HXO : Kept (-9223372036854775808 ≤ x.2 ∧ x.2 ≤ 9223372036854775807) := ⟨hxo.2⟩
                have Hx := Kept.mk hx
                have hnl : (Rem.nameText x.1).length ≤ 4 := Rem.name_len x.1
                have hvl := itoa_len x.2 hxo.2
                have a1 := add_eq (Rem.nameText x.1) [61] (by omega) (by decide)
                have a2 := add_eq (Rem.nameText x.1 ++ [61]) (Lib.itoa x.2) (by simp; omega) (by omega)
                have hte : Rem.nameText x.1 ++ [61] ++ Lib.itoa x.2 = Rem.setText x := rfl
                rw [hte] at a2
                have hst : (Rem.setText x).length ≤ 30 := Rem.set_len hxo.2.1 hxo.2.2
                generalize hnt : Rem.nameText x.1 = nt at a1 a2 hnl
                have Hnt : Kept (Utf8.encode (IntKind.i32.wrap (IntKind.i64.wrap (97 + x.1))) = ⟨nt.toArray⟩) := ⟨by rw [← hnt]; rfl⟩
                generalize hn61 : nt ++ [61] = n61 at a1 a2
                generalize hsx : Rem.setText x = stx at a2 hst
                have Hsx := Kept.mk hsx
                clear hx hx1 hx2 hxo hte hnt hn61 hsx
                have hrow : ∀ kk, u3.ownBlock = some kk → w.heap.size + 1 ≤ kk ∧ kk < wr.heap.size := fun kk h => HOk.out.lt kk h
                have S0 : Kept ((wr.alloc (.cells #[.int .i64 x.1, .int .i64 x.2] 43)).cell? ⟨wr.heap.size, 0, none⟩ = some (.int .i64 x.1) ∧ (wr.alloc (.cells #[.int .i64 x.1, .int .i64 x.2] 43)).cell? ⟨wr.heap.size, 1, none⟩ = some (.int .i64 x.2) ∧ Below w.heap.size w (wr.alloc (.cells #[.int .i64 x.1, .int .i64 x.2] 43))) := ⟨World.cell?_alloc_new _ _ _ _, World.cell?_alloc_new _ _ _ _, bl_a HBk.out⟩
                have hb00 : Below wr.heap.size wr (wr.alloc (.cells #[.int .i64 x.1, .int .i64 x.2] 43)) := (Below.refl _ _).alloc (Nat.le_refl _) _
                go_upto_region 13 with fail
                have henc := Hnt.out
                go_region_held3 (fun w' => w'.cell? ⟨wr.heap.size, 0, none⟩ = some (.int .i64 x.1) ∧ w'.cell? ⟨wr.heap.size, 1, none⟩ = some (.int .i64 x.2) ∧ Below w.heap.size w w')
                  (first
                    | (with_reducible exact two_next (by assumption) hb6)
                    | (repeat (first | with_reducible assumption | with_reducible exact S0.out | with_reducible refine two_d ?_ | with_reducible refine two_a ?_)))
                  (first
                    | (go_at_call 44; (with_reducible refine (formatInt_any x.2 HXO.out.1 HXO.out.2 _ (hG.out.later (two_d S0.out).2.2)).mono ?_); rintro e w6 ⟨rfl, hb6⟩)
                    | (refine step_append_lies _ rfl _ _ 30 rfl (w.heap.size + 1) 9 i0 (.string ⟨#[]⟩) 1 16 Tryz.underlying30 hi hz0 hz1 hz2 rfl (by decide) _ _ _ rfl (pw_kept HOk.out (by repeat' (first | with_reducible exact Below.refl _ _ | with_reducible refine bl_a ?_ | with_reducible refine bl_d ?_ | with_reducible refine bl_c (by assumption) ?_))) ⟨_, 0, none⟩ 1 1 [.string ⟨stx.toArray⟩] rfl rfl (cell_one_new _ _ _) (by simp [Value.oneCell']) (by decide) (by unfold maxLen; omega) (by omega) (by simp; have := hb6.size; simp at this; omega) _ rfl ?_; intro g9 cap9 w9 hown9 hgrow9 hat9 hlt9; have hg9 : World.grownBy _ w9 u3.ownBlock := hgrow9; have hS9 := two_g (by assumption) hg9 ⟨fun e => absurd (hrow _ e.symm).2 (Nat.lt_irrefl _), fun e => absurd (hrow _ e.symm).2 (Nat.lt_irrefl _)⟩ (fun kk e => Nat.le_trans (Nat.le_succ _) (hrow kk e).1)))
                have X9 : Kept (w9.ownsRow (w.heap.size + 1) 9 1 (.slice (some ⟨g9, 0, none⟩) (k + 2 + 1) cap9) (k + 1 + 2) (strVs (Rem.wordOf o.kind :: Lib.itoa o.id :: (o.sets.take (k + 1)).map Rem.setText))) := ⟨by
                  have e1 : o.sets.take (k + 1) = o.sets.take k ++ [x] := by rw [List.take_add_one, Hx.out]; rfl
                  rw [e1, List.map_append, List.map_cons, List.map_nil, Hsx.out]
                  simpa [strVs] using hown9⟩
                have Y9 : Kept (Below w.heap.size w w9) := ⟨hS9.2.2⟩
                clear hown9 hgrow9 hat9 hlt9 hg9 hS9 hb6 henc hb00 a1 a2
                go_wp2_with fail
                go_roundw
                case rel => exact ⟨k + 1, by omega, by go_num, X9, Y9⟩
                case measure => simp [intOf]; omega
              · have hke : k = o.sets.length := by omega
                have HOe : Kept (wr.ownsRow (w.heap.size + 1) 9 1 u3 (o.sets.length + 1 + 1) (strVs (Rem.wordOf o.kind :: Lib.itoa o.id :: o.sets.map Rem.setText))) := ⟨by
                  have := HOk.out
                  rw [hke, List.take_length] at this
                  exact this⟩
                have hjl : (Lib.join (Rem.wordOf o.kind :: Lib.itoa o.id :: o.sets.map Rem.setText) [32]).length ≤ 50000 := by
                  have := join_le (Rem.wordOf o.kind :: Lib.itoa o.id :: o.sets.map Rem.setText) 40 (fun y hy => by
                    simp only [List.mem_cons, List.mem_map] at hy
                    rcases hy with rfl | rfl | ⟨z, hz, rfl⟩
                    · omega
                    · omega
                    · have := Rem.set_len (F6.out z hz).2.1 (F6.out z hz).2.2; omega)
                  simp only [List.length_cons, List.length_map] at this
                  omega
                have a1 := add_eq (Lib.join (Rem.wordOf o.kind :: Lib.itoa o.id :: o.sets.map Rem.setText) [32]) [10] (by omega) (by decide)
                have a2 := add_eq (Lib.join (Rem.wordOf o.kind :: Lib.itoa o.id :: o.sets.map Rem.setText) [32] ++ [10]) [] (by rw [List.length_append]; simp only [List.length_cons, List.length_nil]; omega) (by decide)
                have J := Kept.mk (join_own wr (w.heap.size + 1) (o.sets.length + 1) u3 _ (by simp) (by omega) HOe.out (by omega))
                generalize hJ : Lib.join (Rem.wordOf o.kind :: Lib.itoa o.id :: o.sets.map Rem.setText) [32] = j1 at a1 a2 hjl J T
                generalize hJ2 : j1 ++ [10] = j2 at a1 a2 T
                rw [List.append_nil] at a2
                clear hJ hJ2 hke
                go_wp2_with fail
                refine J.out.mono ?_
                rintro e w6 ⟨rfl, hb6⟩
                go_wp2_with fail
                go_ret
                exact ⟨congrArg (fun l : Rem.Str => Ending.returned (.string ⟨l.toArray⟩)) T.out.symm, bl_c hb6 HBk.out⟩
    · intro x c w3 cnt3 hlx hat hrg3 hlt3 hg3 hs3 hen
      obtain ⟨k1, k2, k3⟩ := kinds_entry hat
      have hb3 : ∀ k, k < w1.heap.size → w3.heap[k]? = wr.heap[k]? := fun k hk => hg3.block k (by have := HB.out.size; have h4 := hrg.lt; omega) (by simp; omega)
      have HP3 : Kept (w3.heap[w.heap.size]? = some (.cells (opCells o (.slice a o.sets.length cap)) 40 (0, 0))) := ⟨by rw [hb3 _ (by simp at hs1; omega)]; exact HP.out⟩
      have HO3 : Kept (w3.ownsRow (w.heap.size + 1) 9 1 (.slice (some ⟨w.heap.size + 1, 0, none⟩) 1 1) 1 [.string ⟨(found o.kind left).toArray⟩]) := ⟨HO.out.kept hg3 (.inr (by simp [Value.ownBlock]; simp at hs1; omega))⟩
      have HB3 : Kept (Below (w.heap.size + 1) (w.alloc (.cells (opCells o (.slice a o.sets.length cap)) 40)) w3) := ⟨Below.grown HB.out hg3 (by have := HB.out.size; simp at this ⊢; omega) (fun j hj => by cases hj; simp at hs1; omega)⟩
      have ck : w3.cell? ⟨w.heap.size, 0, none⟩ = some (.int .i64 o.kind) := by simp [World.cell?, HP3.out]
      have HR3 := Kept.mk hrg3
      have Hl3 := Kept.mk hlt3
      have HL := Kept.mk hrg.left_eq
      have hw3 : w.heap.size + 1 < w1.heap.size := by simp at hs1; omega
      clear hg3 hs3 hrg3 hlt3 hb3 hat hlx HR HO HB HP
      by_cases hck : c = o.kind
      · have t1 : (c == o.kind) = true := by simp [hck]
        have fz := HO3.out.frozenAt 0
        have cw : w3.cell? ⟨w.heap.size + 1, 0, none⟩ = some (.string ⟨(found o.kind left).toArray⟩) := by rw [HO3.out.cellAt 0 (by simp)]; rfl
        have st := Kept.mk (HO3.out.stored 0 (.string x))
        have Hck := Kept.mk hck
        have K3 := Kept.mk k3
        have hne : some b ≠ some (w.heap.size + 1) := by simpa using hbk
        clear hck k1 k2 k3
        go_wp2_with fail
        go_roundw
        case rel =>
          have hx : Rem.wordOf o.kind = x.data.toList := by rw [← Hck.out]; exact K3.out
          have hset : w3.grownBy (w3.setCell ⟨w.heap.size + 1, 0, none⟩ (.string x)) (some (w.heap.size + 1)) := ⟨rfl, rfl, rfl, by rw [Deep.nblk_setCell]; exact Nat.le_refl _, fun k _ hk => Deep.blk_setCell_other w3 _ _ k (by simpa using hk)⟩
          refine ⟨_, cnt3, ⟨HR3.out.kept hset hne (by simp; omega)⟩, ⟨?_⟩, ⟨HB3.out.setCell (p := ⟨w.heap.size + 1, 0, none⟩) (Nat.le_refl _) _⟩, ⟨?_⟩⟩
          · rw [found_hit hx]
            have := st.out.1
            simpa using this
          · rw [Deep.blk_setCell_other _ _ _ _ (by show w.heap.size ≠ w.heap.size + 1; omega)]; exact HP3.out
        case measure =>
          have hset : w3.grownBy (w3.setCell ⟨w.heap.size + 1, 0, none⟩ (.string x)) (some (w.heap.size + 1)) := ⟨rfl, rfl, rfl, by rw [Deep.nblk_setCell]; exact Nat.le_refl _, fun k _ hk => Deep.blk_setCell_other w3 _ _ k (by simpa using hk)⟩
          rw [(HR3.out.kept hset hne (by simp; omega)).left_eq, HL.out]; exact Hl3.out
      · have t1 : (c == o.kind) = false := by simp [hck]
        have Hck := Kept.mk hck
        have K3 := Kept.mk k3
        have K1 := Kept.mk k1
        have K2 := Kept.mk k2
        clear hck k1 k2 k3
        go_wp2_with fail
        go_roundw
        case rel =>
          refine ⟨_, cnt3, HR3, ⟨?_⟩, HB3, HP3⟩
          rw [found_miss (fun e => Hck.out ?_)]
          · exact HO3.out
          · rw [← K1.out, ← e]
            by_cases h0 : Rem.wordOf o.kind = []
            · rw [h0] at e
              have := K1.out
              rw [← e] at this
              exact absurd this.symm K2.out
            · exact Rem.word_kindOf h0
        case measure => rw [HR3.out.left_eq, HL.out]; exact Hl3.out
end Go.Proofs.YtdlieanhdbbhiaaGreatDoor
