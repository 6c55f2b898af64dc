/- Walk: script.line. -/
import Derived.Test.YtdlieanhdbbhiaaGreatDoorSets
import Derived.Test.YtdlieanhdbbhiaaGreatDoorKinds
import Derived.Test.YtdlieanhdbbhiaaGreatDoorSplit
import Derived.Deep.RegionHeld3
import Derived.Deep.DeepCutAuto
import Derived.Deep.Heap
import Derived.Deep.Onto
set_option linter.unusedVariables false
set_option linter.unusedSimpArgs false
namespace Go.Proofs.YtdlieanhdbbhiaaGreatDoor
open Go.RowKit

theorem midB {w1 w2 : World} {a0 a1 a2 a3 a4 : Value} {t : TypeId} (h : Below (w1.alloc (.cells #[a0, a1, a2, a3, a4] t)).drew.heap.size (w1.alloc (.cells #[a0, a1, a2, a3, a4] t)).drew w2) :
    (w2.cell? ⟨w1.heap.size, 0, none⟩ = some a0 ∧ w2.cell? ⟨w1.heap.size, 1, none⟩ = some a1 ∧ w2.cell? ⟨w1.heap.size, 2, none⟩ = some a2 ∧ w2.cell? ⟨w1.heap.size, 3, none⟩ = some a3 ∧ w2.cell? ⟨w1.heap.size, 4, none⟩ = some a4) ∧
    w2.frozen? ⟨w1.heap.size, 0, none⟩ = false ∧ w2.frozen? ⟨w1.heap.size, 1, none⟩ = false ∧ w2.frozen? ⟨w1.heap.size, 2, none⟩ = false ∧ w2.frozen? ⟨w1.heap.size, 3, none⟩ = false ∧ w2.frozen? ⟨w1.heap.size, 4, none⟩ = false := by
  obtain ⟨hc, hf⟩ := bcell h
  have hs : w1.heap.size < (w1.alloc (.cells #[a0, a1, a2, a3, a4] t)).drew.heap.size := by show w1.heap.size < (w1.heap.push _).size; simp
  have e : ∀ i, w2.cell? ⟨w1.heap.size, i, none⟩ = #[a0, a1, a2, a3, a4][i]? := fun i => by
    rw [hc _ _ hs]; exact World.cell?_alloc_at (w := w1) _ _ _ _ rfl
  have f : ∀ i, w2.frozen? ⟨w1.heap.size, i, none⟩ = false := fun i => by
    rw [hf _ _ hs]; exact World.frozen?_alloc_at (w := w1) _ _ _ _ rfl
  exact ⟨⟨e 0, e 1, e 2, e 3, e 4⟩, f 0, f 1, f 2, f 3, f 4⟩

theorem below_drew (B : Nat) (w : World) : Below B w w.drew := ⟨rfl, rfl, rfl, Nat.le_refl _, fun _ _ => rfl⟩
theorem kind_cases (x : Rem.Str) : Rem.kindOf x = 0 ∨ Rem.kindOf x = 4 ∨ Rem.kindOf x = 3 ∨ Rem.kindOf x = 1 ∨ Rem.kindOf x = 2 ∨ Rem.kindOf x = 5 ∨ Rem.kindOf x = 6 ∨ Rem.kindOf x = 7 := by
  unfold Rem.kindOf
  repeat' split
  all_goals decide
def LinePost (l : Rem.Str) (w : World) (e : Ending) (w' : World) : Prop :=
  (match Rem.line l with
   | some o => ∃ v, e = .returned (.tuple #[.agg #[.int .i64 o.kind, .int .i64 o.id, .int .u64 o.n, .string ⟨o.text.toArray⟩, v], .bool true]) ∧ w'.ownsRow w.heap.size 43 2 v o.sets.length (setVs o.sets)
   | none => ∃ (k i n : Int), e = .returned (.tuple #[.agg #[.int .i64 k, .int .i64 i, .int .u64 n, .string ⟨#[]⟩, .slice none 0 0], .bool false])) ∧ Below w.heap.size w w'
theorem LinePost.no {l : Rem.Str} {w w' : World} (h : Rem.line l = none) (k i n : Int) (hb : Below w.heap.size w w') : LinePost l w (.returned (.tuple #[.agg #[.int .i64 k, .int .i64 i, .int .u64 n, .string ⟨#[]⟩, .slice none 0 0], .bool false])) w' := by
  unfold LinePost; rw [h]; exact ⟨⟨k, i, n, rfl⟩, hb⟩
theorem LinePost.yes {l : Rem.Str} {w w' : World} {k i : Int} {n : Nat} {s : List (Int × Int)} {v : Value} (h : Rem.line l = some ⟨k, i, n, [], s⟩) (hv : w'.ownsRow w.heap.size 43 2 v s.length (setVs s)) (hb : Below w.heap.size w w') : LinePost l w (.returned (.tuple #[.agg #[.int .i64 k, .int .i64 i, .int .u64 n, .string ⟨#[]⟩, v], .bool true])) w' := by
  unfold LinePost; rw [h]; exact ⟨⟨v, rfl, hv⟩, hb⟩

theorem line_k0 {l x : Rem.Str} {r : List Rem.Str} (h : Rem.split l = some (x :: r)) (hk : Rem.kindOf x = 0) : Rem.line l = none := by
  unfold Rem.line; rw [h]; simp [hk]
theorem line_k4n {l x : Rem.Str} (h : Rem.split l = some [x]) (hk : Rem.kindOf x = 4) : Rem.line l = some ⟨4, 0, 0, [], []⟩ := by
  unfold Rem.line; rw [h]; simp [hk]
theorem line_k4c {l x a : Rem.Str} {r : List Rem.Str} (h : Rem.split l = some (x :: a :: r)) (hk : Rem.kindOf x = 4) : Rem.line l = none := by
  unfold Rem.line; rw [h]; simp [hk]
theorem line_kn {l x : Rem.Str} (h : Rem.split l = some [x]) (hk : ¬ Rem.kindOf x = 4) : Rem.line l = none := by
  unfold Rem.line; rw [h]; simp [hk]
theorem line_k3 {l x a : Rem.Str} {r : List Rem.Str} (h : Rem.split l = some (x :: a :: r)) (hk : Rem.kindOf x = 3) :
    Rem.line l = match Rem.number a with | some n => if n ≤ 4611686018427387904 ∧ r = [] then some ⟨3, 0, n, [], []⟩ else none | none => none := by
  unfold Rem.line; rw [h]; cases h2 : Rem.number a <;> simp [hk, h2]
theorem line_k1 {l x a : Rem.Str} {r : List Rem.Str} (h : Rem.split l = some (x :: a :: r)) (hk : Rem.kindOf x = 1) :
    Rem.line l = match Rem.wnumber a 6000 with | some n => if r = [] then some ⟨1, 0, n, [], []⟩ else none | none => none := by
  unfold Rem.line; rw [h]; cases h2 : Rem.wnumber a 6000 <;> simp [hk, h2]
theorem line_k25 {l x a : Rem.Str} {r : List Rem.Str} {k : Int} (h : Rem.split l = some (x :: a :: r)) (hk : Rem.kindOf x = k) (h25 : k = 2 ∨ k = 5) :
    Rem.line l = match Rem.wnumber a 999999999 with | none => none | some n => (Rem.sets r).map fun x => ⟨k, n, 0, [], x⟩ := by
  unfold Rem.line; rw [h]
  rcases h25 with rfl | rfl <;> cases h2 : Rem.wnumber a 999999999 <;> simp [hk, h2]
theorem line_k67 {l x a : Rem.Str} {r : List Rem.Str} {k : Int} (h : Rem.split l = some (x :: a :: r)) (hk : Rem.kindOf x = k) (h67 : k = 6 ∨ k = 7) :
    Rem.line l = match Rem.wnumber a 999999999 with | none => none | some n => if r = [] then some ⟨k, n, 0, [], []⟩ else none := by
  unfold Rem.line; rw [h]
  rcases h67 with rfl | rfl <;> cases h2 : Rem.wnumber a 999999999 <;> simp [hk, h2]

theorem wnumber_le {l : Rem.Str} {m : Int} {n : Nat} (h : Rem.wnumber l m = some n) : (n : Int) ≤ m := by
  unfold Rem.wnumber at h
  split at h
  · split at h
    · rename_i hle
      cases h; exact hle
    · cases h
  · cases h

theorem own_far {w : World} {base : Nat} {e : TypeId} {size : Nat} {v : Value} {n : Nat} {xs : List Value} (h : w.ownsRow base e size v n xs) {b i : Nat} (hb : b < base) (u : Value) : (w.setCell ⟨b, i, none⟩ u).ownsRow base e size v n xs := by
  obtain ⟨h1, h2⟩ := h
  refine ⟨h1, ?_⟩
  rcases h2 with h2 | ⟨g, cap, cur, hv, hg, hh, r⟩
  · exact .inl h2
  · exact .inr ⟨g, cap, cur, hv, hg, by rw [Deep.blk_setCell_other _ _ _ _ (by show g ≠ b; omega)]; exact hh, r⟩
theorem own_slice {w : World} {base : Nat} {e : TypeId} {size : Nat} {v : Value} {n : Nat} {xs : List Value} (h : w.ownsRow base e size v n xs) : ∃ a cap, v = .slice a n cap := by
  rcases h.2 with ⟨hv, rfl, _⟩ | ⟨g, cap, cur, hv, _⟩
  · exact ⟨none, 0, hv⟩
  · exact ⟨_, cap, hv⟩

theorem midBlk {w1 w2 : World} {C : Array Value} {t : TypeId} (h : Below (w1.alloc (.cells C t)).drew.heap.size (w1.alloc (.cells C t)).drew w2) : w2.heap[w1.heap.size]? = some (.cells C t) := by
  rw [h.block _ (by show w1.heap.size < (w1.heap.push _).size; simp)]
  show (w1.heap.push _)[w1.heap.size]? = _
  simp
theorem newBlk (w : World) (C : Array Value) (t : TypeId) : (w.alloc (.cells C t)).heap[w.heap.size]? = some (.cells C t) := by
  show (w.heap.push _)[w.heap.size]? = _
  simp
theorem setBlk {w : World} {b i : Nat} {C : Array Value} {t : TypeId} {fr : Nat × Nat} (h : w.heap[b]? = some (.cells C t fr)) (v : Value) : (w.setCell ⟨b, i, none⟩ v).heap[b]? = some (.cells (C.setIfInBounds i v) t fr) := by
  simp [World.setCell, Array.getElem?_modify, h]
theorem setBlk5 {w : World} {b : Nat} {a0 a1 a2 a3 a4 : Value} {t : TypeId} (h : w.heap[b]? = some (.cells #[a0, a1, a2, a3, a4] t)) (b0 b1 b2 b3 b4 : Value) :
    (((((w.setCell ⟨b, 0, none⟩ b0).setCell ⟨b, 1, none⟩ b1).setCell ⟨b, 2, none⟩ b2).setCell ⟨b, 3, none⟩ b3).setCell ⟨b, 4, none⟩ b4).heap[b]? = some (.cells #[b0, b1, b2, b3, b4] t) :=
  setBlk (setBlk (setBlk (setBlk (setBlk h b0) b1) b2) b3) b4
/-- five cells of one block -/
def Five (w : World) (b : Nat) (a0 a1 a2 a3 a4 : Value) : Prop :=
  (w.cell? ⟨b, 0, none⟩ = some a0 ∧ w.cell? ⟨b, 1, none⟩ = some a1 ∧ w.cell? ⟨b, 2, none⟩ = some a2 ∧ w.cell? ⟨b, 3, none⟩ = some a3 ∧ w.cell? ⟨b, 4, none⟩ = some a4) ∧
  w.frozen? ⟨b, 0, none⟩ = false ∧ w.frozen? ⟨b, 1, none⟩ = false ∧ w.frozen? ⟨b, 2, none⟩ = false ∧ w.frozen? ⟨b, 3, none⟩ = false ∧ w.frozen? ⟨b, 4, none⟩ = false
theorem five {w : World} {b : Nat} {a0 a1 a2 a3 a4 : Value} {t : TypeId} (h : w.heap[b]? = some (.cells #[a0, a1, a2, a3, a4] t)) : Five w b a0 a1 a2 a3 a4 := by
  have hc : ∀ i, w.cell? ⟨b, i, none⟩ = #[a0, a1, a2, a3, a4][i]? := fun i => by simp [World.cell?, h]
  have hf : ∀ i, w.frozen? ⟨b, i, none⟩ = false := fun i => by simp [World.frozen?, h]
  exact ⟨⟨hc 0, hc 1, hc 2, hc 3, hc 4⟩, hf 0, hf 1, hf 2, hf 3, hf 4⟩

theorem cell_alloc' {w : World} {a : Addr} {v : Value} {o : Obj} (h : w.cell? a = some v) : (w.alloc o).cell? a = some v := by
  rw [World.cell?_alloc_some _ _ _ (by simp [h])]; exact h

set_option maxRecDepth 1000000 in
set_option maxHeartbeats 8000000 in
theorem line_some (l : Rem.Str) (x : Rem.Str) (r : List Rem.Str) (hsp : Kept (Rem.split l = some (x :: r))) (w : World) (hG : Kept (Glob w)) (hs : l.length ≤ 1000000) (hlen : Kept (∀ y ∈ x :: r, y.length ≤ 1000000)) (hr : Kept (r.length ≤ 1000000)) :
    Calls Tryz.prog 19 #[.string ⟨l.toArray⟩] w (LinePost l w) := by
  have hxl : x.length ≤ 1000000 := hlen.out x (by simp)
  go_enter Tryz.func19, Tryz.ntmps19
  go_wp2_with fail
  refine (split_any ⟨l.toArray⟩ _ (by rw [size_mk]; exact hs)).mono ?_
  intro e w1 hp
  unfold SplitPost at hp
  rw [show (⟨l.toArray⟩ : ByteArray).data.toList = l from rfl, hsp.out] at hp
  obtain ⟨⟨v, rfl, hown⟩, hb1⟩ := hp
  obtain ⟨g, cap, hv, hg1, hg3⟩ := own_some hown
  rw [hv] at hown ⊢
  have ct : w1.cell? ⟨g, 0, none⟩ = some (.string ⟨x.toArray⟩) := by
    rw [hown.cellAt 0 (by simp)]; simp [strVs]
  have Hall : Kept (∀ j y, (x :: r)[j]? = some y → w1.cell? ⟨g, j, none⟩ = some (.string ⟨y.toArray⟩)) := ⟨fun j y hj => by
    have hjl : j < (x :: r).length := (List.getElem?_eq_some_iff.1 hj).1
    rw [hown.cellAt j (by simpa [strVs] using hjl)]
    unfold strVs
    rw [List.getElem?_map, hj]
    rfl⟩
  obtain ⟨hc1, hf1⟩ := bcell hb1
  clear hv hown
  go_wp2_with fail
  have ctd : w1.drew.cell? ⟨g, 0, none⟩ = some (.string ⟨x.toArray⟩) := ct
  have cta : (w1.alloc (.cells #[.int .i64 0, .int .i64 0, .int .u64 0, .string ⟨#[]⟩, .slice none 0 0] 40)).drew.cell? ⟨g, 0, none⟩ = some (.string ⟨x.toArray⟩) := cell_alloc' (w := w1) ct
  have hne := World.new_ne w1 _ ct
  go_upto_region 4 with fail
  go_cut [6] (fun v wx => ∃ b, v = .pointer (some ⟨b, 0, none⟩) ∧ w1.heap.size ≤ b ∧ wx.heap[b]? = some (.cells #[.int .i64 (Rem.kindOf x), .int .i64 0, .int .u64 0, .string ⟨#[]⟩, .slice none 0 0] 40) ∧ Below w1.heap.size w1 wx)
  case first =>
    go_region_held3 (fun w' => w'.cell? ⟨g, 0, none⟩ = some (.string ⟨x.toArray⟩)) (first
        | (with_reducible refine cell_later' (by assumption) ?_; with_reducible assumption)
        | (with_reducible refine cell_alloc' ?_; with_reducible refine cell_later' (by assumption) ?_; with_reducible assumption)
        | go_keep)
      (first
        | (go_at_call 32; refine (kinds_any _).mono ?_; rintro e w2 ⟨⟨bk, rfl, hk⟩, hb2⟩; have hlk := hk.look x hxl w2 (Below.refl _ _); have hlk2 := fun o => hk.look x hxl (w2.alloc o) ((Below.refl _ _).alloc (Nat.le_refl _) o); first | (with_reducible have hmid := midB hb2; obtain ⟨⟨m0, m1, m2, m3, m4⟩, f0, f1, f2, f3, f4⟩ := hmid) | skip))
    all_goals go_wp2_with fail
    · go_meet
      exact ⟨w2.heap.size, rfl, hb2.size, newBlk _ _ _, (Below.trans (below_drew _ w1) hb2).alloc hb2.size _⟩
    · go_meet
      exact ⟨w2.heap.size, rfl, hb2.size, newBlk _ _ _, (Below.trans (below_drew _ w1) hb2).alloc hb2.size _⟩
    · go_meet
      have hlt : w1.heap.size < w2.heap.size := Nat.lt_of_lt_of_le (by show w1.heap.size < (w1.heap.push _).size; simp) hb2.size
      have h0 : Below w1.heap.size w1 w2 := (((Below.refl _ w1).alloc (Nat.le_refl _) _).trans ((below_drew _ _).trans (hb2.mono (by show w1.heap.size ≤ (w1.heap.push _).size; simp))))
      exact ⟨w1.heap.size, rfl, Nat.le_refl _, setBlk5 (midBlk hb2) _ _ _ _ _, ((((h0.setCell (p := ⟨w1.heap.size, 0, none⟩) (Nat.le_refl _) _).setCell (p := ⟨w1.heap.size, 1, none⟩) (Nat.le_refl _) _).setCell (p := ⟨w1.heap.size, 2, none⟩) (Nat.le_refl _) _).setCell (p := ⟨w1.heap.size, 3, none⟩) (Nat.le_refl _) _).setCell (p := ⟨w1.heap.size, 4, none⟩) (Nat.le_refl _) _⟩
  case rest =>
    obtain ⟨b, rfl, hbb, hblk, hbc⟩ := hcut
    have hw1 : w.heap.size < w1.heap.size := Nat.lt_of_lt_of_le (by show w.heap.size < (w.heap.push _).size; simp) hb1.size
    have hbr := below_next hb1 hb1.size hbc
    have hres := five ((hbr.block _ (by show w.heap.size < (w.heap.push _).size; simp)).trans (newBlk _ _ _))
    have hB : Below w.heap.size w wc := ((Below.refl _ w).alloc (Nat.le_refl _) _).trans (hbr.mono (by show w.heap.size ≤ (w.heap.push _).size; simp))
    have hop := five hblk
    have n1 : ¬ b = w.heap.size := by omega
    have n2 : ¬ w.heap.size = b := by omega
    have Hc1 := Kept.mk hbc
    have hsz := hbc.size
    have q1 : b < wc.heap.size := (Array.getElem?_eq_some_iff.1 hblk).1
    have hwb : w.heap.size ≤ b := by omega
    have q2 : w.heap.size < wc.heap.size := by omega
    obtain ⟨⟨c0, c1, c2, c3, c4⟩, e0, e1, e2, e3, e4⟩ := hres
    obtain ⟨⟨m0, m1, m2, m3, m4⟩, f0, f1, f2, f3, f4⟩ := hop
    clear hb1 hc1 hf1 ct ctd cta hne hbc hblk hbr
    generalize hk : Rem.kindOf x = k at m0
    have Hk := Kept.mk hk
    have hk8 := kind_cases x
    rw [hk] at hk8
    clear hk
    rcases r with _ | ⟨a, r'⟩
    · rcases hk8 with h | h | h | h | h | h | h | h
      · rw [h] at m0 Hk
        go_wp2_with fail
        all_goals
          refine bodyPost_ret (v := .tuple #[.agg #[.int .i64 0, .int .i64 0, .int .u64 0, .string ⟨#[]⟩, .slice none 0 0], .bool false]) (by simp [results, Tryz.results19, go_sem, c0, c1, c2, c3, c4] <;> omega) rfl ?_
          exact LinePost.no (line_k0 hsp.out Hk.out) _ _ _ (((((hB.setCell (p := ⟨w.heap.size, 0, none⟩) (Nat.le_refl _) _).setCell (p := ⟨w.heap.size, 1, none⟩) (Nat.le_refl _) _).setCell (p := ⟨w.heap.size, 2, none⟩) (Nat.le_refl _) _).setCell (p := ⟨w.heap.size, 3, none⟩) (Nat.le_refl _) _).setCell (p := ⟨w.heap.size, 4, none⟩) (Nat.le_refl _) _)
      · rw [h] at m0 Hk
        go_wp2_with fail
        all_goals
          refine bodyPost_ret (v := .tuple #[.agg #[.int .i64 4, .int .i64 0, .int .u64 0, .string ⟨#[]⟩, .slice none 0 0], .bool true]) (by simp [results, Tryz.results19, go_sem, c0, c1, c2, c3, c4] <;> omega) rfl ?_
          exact LinePost.yes (n := 0) (line_k4n hsp.out Hk.out) (World.ownsRow_nil _ _ _ _) (((((hB.setCell (p := ⟨w.heap.size, 0, none⟩) (Nat.le_refl _) _).setCell (p := ⟨w.heap.size, 1, none⟩) (Nat.le_refl _) _).setCell (p := ⟨w.heap.size, 2, none⟩) (Nat.le_refl _) _).setCell (p := ⟨w.heap.size, 3, none⟩) (Nat.le_refl _) _).setCell (p := ⟨w.heap.size, 4, none⟩) (Nat.le_refl _) _)
      · rw [h] at m0 Hk
        go_wp2_with fail
        all_goals
          refine bodyPost_ret (v := .tuple #[.agg #[.int .i64 0, .int .i64 0, .int .u64 0, .string ⟨#[]⟩, .slice none 0 0], .bool false]) (by simp [results, Tryz.results19, go_sem, c0, c1, c2, c3, c4] <;> omega) rfl ?_
          exact LinePost.no (line_kn hsp.out (by rw [Hk.out]; decide)) _ _ _ (((((hB.setCell (p := ⟨w.heap.size, 0, none⟩) (Nat.le_refl _) _).setCell (p := ⟨w.heap.size, 1, none⟩) (Nat.le_refl _) _).setCell (p := ⟨w.heap.size, 2, none⟩) (Nat.le_refl _) _).setCell (p := ⟨w.heap.size, 3, none⟩) (Nat.le_refl _) _).setCell (p := ⟨w.heap.size, 4, none⟩) (Nat.le_refl _) _)
      · rw [h] at m0 Hk
        go_wp2_with fail
        all_goals
          refine bodyPost_ret (v := .tuple #[.agg #[.int .i64 0, .int .i64 0, .int .u64 0, .string ⟨#[]⟩, .slice none 0 0], .bool false]) (by simp [results, Tryz.results19, go_sem, c0, c1, c2, c3, c4] <;> omega) rfl ?_
          exact LinePost.no (line_kn hsp.out (by rw [Hk.out]; decide)) _ _ _ (((((hB.setCell (p := ⟨w.heap.size, 0, none⟩) (Nat.le_refl _) _).setCell (p := ⟨w.heap.size, 1, none⟩) (Nat.le_refl _) _).setCell (p := ⟨w.heap.size, 2, none⟩) (Nat.le_refl _) _).setCell (p := ⟨w.heap.size, 3, none⟩) (Nat.le_refl _) _).setCell (p := ⟨w.heap.size, 4, none⟩) (Nat.le_refl _) _)
      · rw [h] at m0 Hk
        go_wp2_with fail
        all_goals
          refine bodyPost_ret (v := .tuple #[.agg #[.int .i64 0, .int .i64 0, .int .u64 0, .string ⟨#[]⟩, .slice none 0 0], .bool false]) (by simp [results, Tryz.results19, go_sem, c0, c1, c2, c3, c4] <;> omega) rfl ?_
          exact LinePost.no (line_kn hsp.out (by rw [Hk.out]; decide)) _ _ _ (((((hB.setCell (p := ⟨w.heap.size, 0, none⟩) (Nat.le_refl _) _).setCell (p := ⟨w.heap.size, 1, none⟩) (Nat.le_refl _) _).setCell (p := ⟨w.heap.size, 2, none⟩) (Nat.le_refl _) _).setCell (p := ⟨w.heap.size, 3, none⟩) (Nat.le_refl _) _).setCell (p := ⟨w.heap.size, 4, none⟩) (Nat.le_refl _) _)
      · rw [h] at m0 Hk
        go_wp2_with fail
        all_goals
          refine bodyPost_ret (v := .tuple #[.agg #[.int .i64 0, .int .i64 0, .int .u64 0, .string ⟨#[]⟩, .slice none 0 0], .bool false]) (by simp [results, Tryz.results19, go_sem, c0, c1, c2, c3, c4] <;> omega) rfl ?_
          exact LinePost.no (line_kn hsp.out (by rw [Hk.out]; decide)) _ _ _ (((((hB.setCell (p := ⟨w.heap.size, 0, none⟩) (Nat.le_refl _) _).setCell (p := ⟨w.heap.size, 1, none⟩) (Nat.le_refl _) _).setCell (p := ⟨w.heap.size, 2, none⟩) (Nat.le_refl _) _).setCell (p := ⟨w.heap.size, 3, none⟩) (Nat.le_refl _) _).setCell (p := ⟨w.heap.size, 4, none⟩) (Nat.le_refl _) _)
      · rw [h] at m0 Hk
        go_wp2_with fail
        all_goals
          refine bodyPost_ret (v := .tuple #[.agg #[.int .i64 0, .int .i64 0, .int .u64 0, .string ⟨#[]⟩, .slice none 0 0], .bool false]) (by simp [results, Tryz.results19, go_sem, c0, c1, c2, c3, c4] <;> omega) rfl ?_
          exact LinePost.no (line_kn hsp.out (by rw [Hk.out]; decide)) _ _ _ (((((hB.setCell (p := ⟨w.heap.size, 0, none⟩) (Nat.le_refl _) _).setCell (p := ⟨w.heap.size, 1, none⟩) (Nat.le_refl _) _).setCell (p := ⟨w.heap.size, 2, none⟩) (Nat.le_refl _) _).setCell (p := ⟨w.heap.size, 3, none⟩) (Nat.le_refl _) _).setCell (p := ⟨w.heap.size, 4, none⟩) (Nat.le_refl _) _)
      · rw [h] at m0 Hk
        go_wp2_with fail
        all_goals
          refine bodyPost_ret (v := .tuple #[.agg #[.int .i64 0, .int .i64 0, .int .u64 0, .string ⟨#[]⟩, .slice none 0 0], .bool false]) (by simp [results, Tryz.results19, go_sem, c0, c1, c2, c3, c4] <;> omega) rfl ?_
          exact LinePost.no (line_kn hsp.out (by rw [Hk.out]; decide)) _ _ _ (((((hB.setCell (p := ⟨w.heap.size, 0, none⟩) (Nat.le_refl _) _).setCell (p := ⟨w.heap.size, 1, none⟩) (Nat.le_refl _) _).setCell (p := ⟨w.heap.size, 2, none⟩) (Nat.le_refl _) _).setCell (p := ⟨w.heap.size, 3, none⟩) (Nat.le_refl _) _).setCell (p := ⟨w.heap.size, 4, none⟩) (Nat.le_refl _) _)
    · have ca : wc.cell? ⟨g, 1, none⟩ = some (.string ⟨a.toArray⟩) := cell_later' Hc1.out (Hall.out 1 a rfl)
      have hal : a.length ≤ 1000000 := hlen.out a (by simp)
      have hGc := Kept.mk (hG.out.later hB)
      have hg4 : r'.length + 2 ≤ cap := by simp at hg3; omega
      have hcap : ¬ cap = 1 := by omega
      rcases hk8 with h | h | h | h | h | h | h | h
      · rw [h] at m0 Hk
        go_wp2_with fail
        all_goals
          refine bodyPost_ret (v := .tuple #[.agg #[.int .i64 0, .int .i64 0, .int .u64 0, .string ⟨#[]⟩, .slice none 0 0], .bool false]) (by simp [results, Tryz.results19, go_sem, c0, c1, c2, c3, c4] <;> omega) rfl ?_
          exact LinePost.no (line_k0 hsp.out Hk.out) _ _ _ (((((hB.setCell (p := ⟨w.heap.size, 0, none⟩) (Nat.le_refl _) _).setCell (p := ⟨w.heap.size, 1, none⟩) (Nat.le_refl _) _).setCell (p := ⟨w.heap.size, 2, none⟩) (Nat.le_refl _) _).setCell (p := ⟨w.heap.size, 3, none⟩) (Nat.le_refl _) _).setCell (p := ⟨w.heap.size, 4, none⟩) (Nat.le_refl _) _)
      · rw [h] at m0 Hk
        go_wp2_with fail
        all_goals
          refine bodyPost_ret (v := .tuple #[.agg #[.int .i64 4, .int .i64 0, .int .u64 0, .string ⟨#[]⟩, .slice none 0 0], .bool false]) (by simp [results, Tryz.results19, go_sem, c0, c1, c2, c3, c4] <;> omega) rfl ?_
          exact LinePost.no (line_k4c hsp.out Hk.out) _ _ _ (((((hB.setCell (p := ⟨w.heap.size, 0, none⟩) (Nat.le_refl _) _).setCell (p := ⟨w.heap.size, 1, none⟩) (Nat.le_refl _) _).setCell (p := ⟨w.heap.size, 2, none⟩) (Nat.le_refl _) _).setCell (p := ⟨w.heap.size, 3, none⟩) (Nat.le_refl _) _).setCell (p := ⟨w.heap.size, 4, none⟩) (Nat.le_refl _) _)
      · rw [h] at m0 Hk
        have He := line_k3 hsp.out Hk.out
        cases hn : Rem.number a with
        | none =>
          rw [hn] at He
          have Hno := Kept.mk He
          go_wp2_with fail
          refine (number_bad a hn _ (by omega)).mono ?_
          rintro e w3 ⟨rfl, hb3⟩
          obtain ⟨hc, hf⟩ := bcell hb3
          have hB3 := below_next hB hB.size hb3
          have hs3 := hb3.size
          clear He hn
          go_wp2_with fail
          all_goals
            refine bodyPost_ret (v := .tuple #[.agg #[.int .i64 3, .int .i64 0, .int .u64 0, .string ⟨#[]⟩, .slice none 0 0], .bool false]) (by simp [results, Tryz.results19, go_sem, c0, c1, c2, c3, c4, hc, q1, q2, n1, n2, m1, m2, m3, m4, m0] <;> omega) rfl ?_
            exact LinePost.no Hno.out _ _ _ ((((((hB3.setCell (p := ⟨b, 2, none⟩) (hwb) _).setCell (p := ⟨w.heap.size, 0, none⟩) (Nat.le_refl _) _).setCell (p := ⟨w.heap.size, 1, none⟩) (Nat.le_refl _) _).setCell (p := ⟨w.heap.size, 2, none⟩) (Nat.le_refl _) _).setCell (p := ⟨w.heap.size, 3, none⟩) (Nat.le_refl _) _).setCell (p := ⟨w.heap.size, 4, none⟩) (Nat.le_refl _) _)
        | some n =>
          rw [hn] at He
          dsimp only at He
          go_wp2_with fail
          refine (number_good a n hn _).mono ?_
          rintro e w3 ⟨rfl, hb3⟩
          obtain ⟨hc, hf⟩ := bcell hb3
          have hB3 := below_next hB hB.size hb3
          have hs3 := hb3.size
          clear hn
          by_cases hm : n ≤ 4611686018427387904 ∧ r' = []
          · rw [if_pos hm] at He
            have Hyes := Kept.mk He
            obtain ⟨hm1, hm2⟩ := hm
            have hl0 : r'.length = 0 := by rw [hm2]; rfl
            have hm3 : (n : Int) ≤ 4611686018427387904 := by omega
            clear He
            go_wp2_with fail
            all_goals
              refine bodyPost_ret (v := .tuple #[.agg #[.int .i64 3, .int .i64 0, .int .u64 n, .string ⟨#[]⟩, .slice none 0 0], .bool true]) (by simp [results, Tryz.results19, go_sem, c0, c1, c2, c3, c4, hc, q1, q2, n1, n2, m1, m2, m3, m4, m0] <;> omega) rfl ?_
              exact LinePost.yes (n := n) Hyes.out (World.ownsRow_nil _ _ _ _) ((((((hB3.setCell (p := ⟨b, 2, none⟩) (hwb) _).setCell (p := ⟨w.heap.size, 0, none⟩) (Nat.le_refl _) _).setCell (p := ⟨w.heap.size, 1, none⟩) (Nat.le_refl _) _).setCell (p := ⟨w.heap.size, 2, none⟩) (Nat.le_refl _) _).setCell (p := ⟨w.heap.size, 3, none⟩) (Nat.le_refl _) _).setCell (p := ⟨w.heap.size, 4, none⟩) (Nat.le_refl _) _)
          · rw [if_neg hm] at He
            have Hno := Kept.mk He
            have hl0 : ¬ ((n : Int) ≤ 4611686018427387904 ∧ (r'.length : Int) = 0) := fun hh => hm ⟨by omega, List.eq_nil_of_length_eq_zero (by omega)⟩
            clear He hm
            go_wp2_with fail
            all_goals
              refine bodyPost_ret (v := .tuple #[.agg #[.int .i64 3, .int .i64 0, .int .u64 n, .string ⟨#[]⟩, .slice none 0 0], .bool false]) (by simp [results, Tryz.results19, go_sem, c0, c1, c2, c3, c4, hc, q1, q2, n1, n2, m1, m2, m3, m4, m0] <;> omega) rfl ?_
              exact LinePost.no Hno.out _ _ _ ((((((hB3.setCell (p := ⟨b, 2, none⟩) (hwb) _).setCell (p := ⟨w.heap.size, 0, none⟩) (Nat.le_refl _) _).setCell (p := ⟨w.heap.size, 1, none⟩) (Nat.le_refl _) _).setCell (p := ⟨w.heap.size, 2, none⟩) (Nat.le_refl _) _).setCell (p := ⟨w.heap.size, 3, none⟩) (Nat.le_refl _) _).setCell (p := ⟨w.heap.size, 4, none⟩) (Nat.le_refl _) _)
      · rw [h] at m0 Hk
        have He := line_k1 hsp.out Hk.out
        cases hn : Rem.wnumber a 6000 with
        | none =>
          rw [hn] at He
          have Hno := Kept.mk He
          go_wp2_with fail
          refine (wnumber_bad a 6000 hn _).mono ?_
          rintro e w3 ⟨rfl, hb3⟩
          obtain ⟨hc, hf⟩ := bcell hb3
          have hB3 := below_next hB hB.size hb3
          have hs3 := hb3.size
          clear He hn
          go_wp2_with fail
          all_goals
            refine bodyPost_ret (v := .tuple #[.agg #[.int .i64 1, .int .i64 0, .int .u64 0, .string ⟨#[]⟩, .slice none 0 0], .bool false]) (by simp [results, Tryz.results19, go_sem, c0, c1, c2, c3, c4, hc, q1, q2, n1, n2, m1, m2, m3, m4, m0] <;> omega) rfl ?_
            exact LinePost.no Hno.out _ _ _ ((((((hB3.setCell (p := ⟨b, 2, none⟩) (hwb) _).setCell (p := ⟨w.heap.size, 0, none⟩) (Nat.le_refl _) _).setCell (p := ⟨w.heap.size, 1, none⟩) (Nat.le_refl _) _).setCell (p := ⟨w.heap.size, 2, none⟩) (Nat.le_refl _) _).setCell (p := ⟨w.heap.size, 3, none⟩) (Nat.le_refl _) _).setCell (p := ⟨w.heap.size, 4, none⟩) (Nat.le_refl _) _)
        | some n =>
          rw [hn] at He
          dsimp only at He
          have hn6 := wnumber_le hn
          go_wp2_with fail
          refine (wnumber_good a 6000 n hn _).mono ?_
          rintro e w3 ⟨rfl, hb3⟩
          obtain ⟨hc, hf⟩ := bcell hb3
          have hB3 := below_next hB hB.size hb3
          have hs3 := hb3.size
          clear hn
          by_cases hm2 : r' = []
          · rw [if_pos hm2] at He
            have Hyes := Kept.mk He
            have hl0 : r'.length = 0 := by rw [hm2]; rfl
            clear He
            go_wp2_with fail
            all_goals
              refine bodyPost_ret (v := .tuple #[.agg #[.int .i64 1, .int .i64 0, .int .u64 n, .string ⟨#[]⟩, .slice none 0 0], .bool true]) (by simp [results, Tryz.results19, go_sem, c0, c1, c2, c3, c4, hc, q1, q2, n1, n2, m1, m2, m3, m4, m0] <;> omega) rfl ?_
              exact LinePost.yes (n := n) Hyes.out (World.ownsRow_nil _ _ _ _) ((((((hB3.setCell (p := ⟨b, 2, none⟩) (hwb) _).setCell (p := ⟨w.heap.size, 0, none⟩) (Nat.le_refl _) _).setCell (p := ⟨w.heap.size, 1, none⟩) (Nat.le_refl _) _).setCell (p := ⟨w.heap.size, 2, none⟩) (Nat.le_refl _) _).setCell (p := ⟨w.heap.size, 3, none⟩) (Nat.le_refl _) _).setCell (p := ⟨w.heap.size, 4, none⟩) (Nat.le_refl _) _)
          · rw [if_neg hm2] at He
            have Hno := Kept.mk He
            have hl0 : ¬ (r'.length : Int) = 0 := fun hh => hm2 (List.eq_nil_of_length_eq_zero (by omega))
            clear He hm2
            go_wp2_with fail
            all_goals
              refine bodyPost_ret (v := .tuple #[.agg #[.int .i64 1, .int .i64 0, .int .u64 n, .string ⟨#[]⟩, .slice none 0 0], .bool false]) (by simp [results, Tryz.results19, go_sem, c0, c1, c2, c3, c4, hc, q1, q2, n1, n2, m1, m2, m3, m4, m0] <;> omega) rfl ?_
              exact LinePost.no Hno.out _ _ _ ((((((hB3.setCell (p := ⟨b, 2, none⟩) (hwb) _).setCell (p := ⟨w.heap.size, 0, none⟩) (Nat.le_refl _) _).setCell (p := ⟨w.heap.size, 1, none⟩) (Nat.le_refl _) _).setCell (p := ⟨w.heap.size, 2, none⟩) (Nat.le_refl _) _).setCell (p := ⟨w.heap.size, 3, none⟩) (Nat.le_refl _) _).setCell (p := ⟨w.heap.size, 4, none⟩) (Nat.le_refl _) _)
      · rw [h] at m0 Hk
        have He := line_k25 hsp.out Hk.out (by decide)
        cases hn : Rem.wnumber a 999999999 with
        | none =>
          rw [hn] at He
          have Hno := Kept.mk He
          go_wp2_with fail
          refine (wnumber_bad a 999999999 hn _).mono ?_
          rintro e w3 ⟨rfl, hb3⟩
          obtain ⟨hc, hf⟩ := bcell hb3
          have hB3 := below_next hB hB.size hb3
          have hs3 := hb3.size
          clear He hn
          go_wp2_with fail
          all_goals
            refine bodyPost_ret (v := .tuple #[.agg #[.int .i64 0, .int .i64 0, .int .u64 0, .string ⟨#[]⟩, .slice none 0 0], .bool false]) (by simp [results, Tryz.results19, go_sem, c0, c1, c2, c3, c4, hc, q1, q2, n1, n2, m1, m2, m3, m4, m0] <;> omega) rfl ?_
            exact LinePost.no Hno.out _ _ _ ((((((hB3.setCell (p := ⟨b, 1, none⟩) (hwb) _).setCell (p := ⟨w.heap.size, 0, none⟩) (Nat.le_refl _) _).setCell (p := ⟨w.heap.size, 1, none⟩) (Nat.le_refl _) _).setCell (p := ⟨w.heap.size, 2, none⟩) (Nat.le_refl _) _).setCell (p := ⟨w.heap.size, 3, none⟩) (Nat.le_refl _) _).setCell (p := ⟨w.heap.size, 4, none⟩) (Nat.le_refl _) _)
        | some n =>
          rw [hn] at He
          dsimp only at He
          have hn6 := wnumber_le hn
          go_wp2_with fail
          refine (wnumber_good a 999999999 n hn _).mono ?_
          rintro e w3 ⟨rfl, hb3⟩
          obtain ⟨hc, hf⟩ := bcell hb3
          have hB3 := below_next hB hB.size hb3
          have hs3 := hb3.size
          clear hn
          have hbx : Below w1.heap.size w1 (w3.setCell ⟨b, 1, none⟩ (.int .i64 n)) := (Hc1.out.trans (hb3.mono hsz)).setCell (p := ⟨b, 1, none⟩) hbb _
          have hGx : Kept (Glob (w3.setCell ⟨b, 1, none⟩ (.int .i64 n))) := ⟨hG.out.later (hB3.setCell (p := ⟨b, 1, none⟩) hwb _)⟩
          have Hbx := Kept.mk hbx
          have hsx : (w3.setCell ⟨b, 1, none⟩ (.int .i64 n)).heap.size = w3.heap.size := by simp [World.setCell]
          clear hbx
          cases hs : Rem.sets r' with
          | none =>
            rw [hs] at He
            have Hend := Kept.mk (show Rem.line l = none from He)
            clear He
            have Hs := Kept.mk hs
            clear hs
            rcases r' with _ | ⟨c, r''⟩
            · have := Hs.out; simp [Rem.sets] at this
            · have hcap2 : ¬ cap = 2 := by simp at hg4; omega
              have hcells : Kept (∀ j x, (c :: r'')[j]? = some x → ∀ W, Below (w3.setCell ⟨b, 1, none⟩ (.int .i64 n)).heap.size (w3.setCell ⟨b, 1, none⟩ (.int .i64 n)) W → W.cell? ⟨g, 2 + j, none⟩ = some (.string ⟨x.toArray⟩)) := ⟨fun j x hj W hW => cell_later' (below_next Hbx.out Hbx.out.size hW) (Hall.out (2 + j) x (by rw [Nat.add_comm]; exact hj))⟩
              have hlen2 : Kept (∀ x ∈ c :: r'', x.length ≤ 1000000) := ⟨fun y hy => hlen.out y (by simp at hy ⊢; right; right; exact hy)⟩
              have hcnt := hr.out
              go_wp2_with fail
              all_goals
                refine (sets_some _ g 2 _ _ (c :: r'') ⟨rfl⟩ (by simp at hcnt ⊢; omega) hcells hlen2 hGx).mono ?_
                intro e w4 hp
                unfold SetsPost at hp
                rw [Hs.out] at hp
                obtain ⟨rfl, hb4⟩ := hp
                obtain ⟨hc4, hf4⟩ := bcell hb4
                have hB4 := below_next (hB3.setCell (p := ⟨b, 1, none⟩) (hwb) _) (hB3.setCell (p := ⟨b, 1, none⟩) (hwb) _).size hb4
                have q3 : b < w3.heap.size := by omega
                have q4 : w.heap.size < w3.heap.size := by omega
                go_wp2_with fail
                refine bodyPost_ret (v := .tuple #[.agg #[.int .i64 2, .int .i64 n, .int .u64 0, .string ⟨#[]⟩, .slice none 0 0], .bool false]) (by simp [results, Tryz.results19, go_sem, c0, c1, c2, c3, c4, hc, q1, q2, n1, n2, m1, m2, m3, m4, m0, hc4, q3, q4, hsx] <;> omega) rfl ?_
                exact LinePost.no Hend.out _ _ _ ((((((hB4.setCell (p := ⟨b, 4, none⟩) (hwb) _).setCell (p := ⟨w.heap.size, 0, none⟩) (Nat.le_refl _) _).setCell (p := ⟨w.heap.size, 1, none⟩) (Nat.le_refl _) _).setCell (p := ⟨w.heap.size, 2, none⟩) (Nat.le_refl _) _).setCell (p := ⟨w.heap.size, 3, none⟩) (Nat.le_refl _) _).setCell (p := ⟨w.heap.size, 4, none⟩) (Nat.le_refl _) _)
          | some ss =>
            rw [hs] at He
            have Hend := Kept.mk (show Rem.line l = some ⟨2, n, 0, [], ss⟩ from He)
            clear He
            have Hs := Kept.mk hs
            clear hs
            rcases r' with _ | ⟨c, r''⟩
            · go_wp2_with fail
              all_goals
                refine (sets_none _ _ _).mono ?_
                intro e w4 hp
                unfold SetsPost at hp
                rw [Hs.out] at hp
                obtain ⟨⟨v4, rfl, hown⟩, hb4⟩ := hp
                obtain ⟨a4, cap4, hv⟩ := own_slice hown
                rw [hv] at hown ⊢
                have Hown := Kept.mk hown
                clear hown hv
                obtain ⟨hc4, hf4⟩ := bcell hb4
                have hB4 := below_next (hB3.setCell (p := ⟨b, 1, none⟩) (hwb) _) (hB3.setCell (p := ⟨b, 1, none⟩) (hwb) _).size hb4
                have q3 : b < w3.heap.size := by omega
                have q4 : w.heap.size < w3.heap.size := by omega
                go_wp2_with fail
                refine bodyPost_ret (v := .tuple #[.agg #[.int .i64 2, .int .i64 n, .int .u64 0, .string ⟨#[]⟩, .slice a4 ss.length cap4], .bool true]) (by simp [results, Tryz.results19, go_sem, c0, c1, c2, c3, c4, hc, q1, q2, n1, n2, m1, m2, m3, m4, m0, hc4, q3, q4, hsx] <;> omega) rfl ?_
                exact LinePost.yes (n := 0) Hend.out ((own_far (own_far (own_far (own_far (own_far (own_far Hown.out (by rw [hsx]; exact q3) _) (by rw [hsx]; exact q4) _) (by rw [hsx]; exact q4) _) (by rw [hsx]; exact q4) _) (by rw [hsx]; exact q4) _) (by rw [hsx]; exact q4) _).mono (by rw [hsx]; omega)) ((((((hB4.setCell (p := ⟨b, 4, none⟩) (hwb) _).setCell (p := ⟨w.heap.size, 0, none⟩) (Nat.le_refl _) _).setCell (p := ⟨w.heap.size, 1, none⟩) (Nat.le_refl _) _).setCell (p := ⟨w.heap.size, 2, none⟩) (Nat.le_refl _) _).setCell (p := ⟨w.heap.size, 3, none⟩) (Nat.le_refl _) _).setCell (p := ⟨w.heap.size, 4, none⟩) (Nat.le_refl _) _)
            · have hcap2 : ¬ cap = 2 := by simp at hg4; omega
              have hcells : Kept (∀ j x, (c :: r'')[j]? = some x → ∀ W, Below (w3.setCell ⟨b, 1, none⟩ (.int .i64 n)).heap.size (w3.setCell ⟨b, 1, none⟩ (.int .i64 n)) W → W.cell? ⟨g, 2 + j, none⟩ = some (.string ⟨x.toArray⟩)) := ⟨fun j x hj W hW => cell_later' (below_next Hbx.out Hbx.out.size hW) (Hall.out (2 + j) x (by rw [Nat.add_comm]; exact hj))⟩
              have hlen2 : Kept (∀ x ∈ c :: r'', x.length ≤ 1000000) := ⟨fun y hy => hlen.out y (by simp at hy ⊢; right; right; exact hy)⟩
              have hcnt := hr.out
              go_wp2_with fail
              all_goals
                refine (sets_some _ g 2 _ _ (c :: r'') ⟨rfl⟩ (by simp at hcnt ⊢; omega) hcells hlen2 hGx).mono ?_
                intro e w4 hp
                unfold SetsPost at hp
                rw [Hs.out] at hp
                obtain ⟨⟨v4, rfl, hown⟩, hb4⟩ := hp
                obtain ⟨a4, cap4, hv⟩ := own_slice hown
                rw [hv] at hown ⊢
                have Hown := Kept.mk hown
                clear hown hv
                obtain ⟨hc4, hf4⟩ := bcell hb4
                have hB4 := below_next (hB3.setCell (p := ⟨b, 1, none⟩) (hwb) _) (hB3.setCell (p := ⟨b, 1, none⟩) (hwb) _).size hb4
                have q3 : b < w3.heap.size := by omega
                have q4 : w.heap.size < w3.heap.size := by omega
                go_wp2_with fail
                refine bodyPost_ret (v := .tuple #[.agg #[.int .i64 2, .int .i64 n, .int .u64 0, .string ⟨#[]⟩, .slice a4 ss.length cap4], .bool true]) (by simp [results, Tryz.results19, go_sem, c0, c1, c2, c3, c4, hc, q1, q2, n1, n2, m1, m2, m3, m4, m0, hc4, q3, q4, hsx] <;> omega) rfl ?_
                exact LinePost.yes (n := 0) Hend.out ((own_far (own_far (own_far (own_far (own_far (own_far Hown.out (by rw [hsx]; exact q3) _) (by rw [hsx]; exact q4) _) (by rw [hsx]; exact q4) _) (by rw [hsx]; exact q4) _) (by rw [hsx]; exact q4) _) (by rw [hsx]; exact q4) _).mono (by rw [hsx]; omega)) ((((((hB4.setCell (p := ⟨b, 4, none⟩) (hwb) _).setCell (p := ⟨w.heap.size, 0, none⟩) (Nat.le_refl _) _).setCell (p := ⟨w.heap.size, 1, none⟩) (Nat.le_refl _) _).setCell (p := ⟨w.heap.size, 2, none⟩) (Nat.le_refl _) _).setCell (p := ⟨w.heap.size, 3, none⟩) (Nat.le_refl _) _).setCell (p := ⟨w.heap.size, 4, none⟩) (Nat.le_refl _) _)
      · rw [h] at m0 Hk
        have He := line_k25 hsp.out Hk.out (by decide)
        cases hn : Rem.wnumber a 999999999 with
        | none =>
          rw [hn] at He
          have Hno := Kept.mk He
          go_wp2_with fail
          refine (wnumber_bad a 999999999 hn _).mono ?_
          rintro e w3 ⟨rfl, hb3⟩
          obtain ⟨hc, hf⟩ := bcell hb3
          have hB3 := below_next hB hB.size hb3
          have hs3 := hb3.size
          clear He hn
          go_wp2_with fail
          all_goals
            refine bodyPost_ret (v := .tuple #[.agg #[.int .i64 0, .int .i64 0, .int .u64 0, .string ⟨#[]⟩, .slice none 0 0], .bool false]) (by simp [results, Tryz.results19, go_sem, c0, c1, c2, c3, c4, hc, q1, q2, n1, n2, m1, m2, m3, m4, m0] <;> omega) rfl ?_
            exact LinePost.no Hno.out _ _ _ ((((((hB3.setCell (p := ⟨b, 1, none⟩) (hwb) _).setCell (p := ⟨w.heap.size, 0, none⟩) (Nat.le_refl _) _).setCell (p := ⟨w.heap.size, 1, none⟩) (Nat.le_refl _) _).setCell (p := ⟨w.heap.size, 2, none⟩) (Nat.le_refl _) _).setCell (p := ⟨w.heap.size, 3, none⟩) (Nat.le_refl _) _).setCell (p := ⟨w.heap.size, 4, none⟩) (Nat.le_refl _) _)
        | some n =>
          rw [hn] at He
          dsimp only at He
          have hn6 := wnumber_le hn
          go_wp2_with fail
          refine (wnumber_good a 999999999 n hn _).mono ?_
          rintro e w3 ⟨rfl, hb3⟩
          obtain ⟨hc, hf⟩ := bcell hb3
          have hB3 := below_next hB hB.size hb3
          have hs3 := hb3.size
          clear hn
          have hbx : Below w1.heap.size w1 (w3.setCell ⟨b, 1, none⟩ (.int .i64 n)) := (Hc1.out.trans (hb3.mono hsz)).setCell (p := ⟨b, 1, none⟩) hbb _
          have hGx : Kept (Glob (w3.setCell ⟨b, 1, none⟩ (.int .i64 n))) := ⟨hG.out.later (hB3.setCell (p := ⟨b, 1, none⟩) hwb _)⟩
          have Hbx := Kept.mk hbx
          have hsx : (w3.setCell ⟨b, 1, none⟩ (.int .i64 n)).heap.size = w3.heap.size := by simp [World.setCell]
          clear hbx
          cases hs : Rem.sets r' with
          | none =>
            rw [hs] at He
            have Hend := Kept.mk (show Rem.line l = none from He)
            clear He
            have Hs := Kept.mk hs
            clear hs
            rcases r' with _ | ⟨c, r''⟩
            · have := Hs.out; simp [Rem.sets] at this
            · have hcap2 : ¬ cap = 2 := by simp at hg4; omega
              have hcells : Kept (∀ j x, (c :: r'')[j]? = some x → ∀ W, Below (w3.setCell ⟨b, 1, none⟩ (.int .i64 n)).heap.size (w3.setCell ⟨b, 1, none⟩ (.int .i64 n)) W → W.cell? ⟨g, 2 + j, none⟩ = some (.string ⟨x.toArray⟩)) := ⟨fun j x hj W hW => cell_later' (below_next Hbx.out Hbx.out.size hW) (Hall.out (2 + j) x (by rw [Nat.add_comm]; exact hj))⟩
              have hlen2 : Kept (∀ x ∈ c :: r'', x.length ≤ 1000000) := ⟨fun y hy => hlen.out y (by simp at hy ⊢; right; right; exact hy)⟩
              have hcnt := hr.out
              go_wp2_with fail
              all_goals
                refine (sets_some _ g 2 _ _ (c :: r'') ⟨rfl⟩ (by simp at hcnt ⊢; omega) hcells hlen2 hGx).mono ?_
                intro e w4 hp
                unfold SetsPost at hp
                rw [Hs.out] at hp
                obtain ⟨rfl, hb4⟩ := hp
                obtain ⟨hc4, hf4⟩ := bcell hb4
                have hB4 := below_next (hB3.setCell (p := ⟨b, 1, none⟩) (hwb) _) (hB3.setCell (p := ⟨b, 1, none⟩) (hwb) _).size hb4
                have q3 : b < w3.heap.size := by omega
                have q4 : w.heap.size < w3.heap.size := by omega
                go_wp2_with fail
                refine bodyPost_ret (v := .tuple #[.agg #[.int .i64 5, .int .i64 n, .int .u64 0, .string ⟨#[]⟩, .slice none 0 0], .bool false]) (by simp [results, Tryz.results19, go_sem, c0, c1, c2, c3, c4, hc, q1, q2, n1, n2, m1, m2, m3, m4, m0, hc4, q3, q4, hsx] <;> omega) rfl ?_
                exact LinePost.no Hend.out _ _ _ ((((((hB4.setCell (p := ⟨b, 4, none⟩) (hwb) _).setCell (p := ⟨w.heap.size, 0, none⟩) (Nat.le_refl _) _).setCell (p := ⟨w.heap.size, 1, none⟩) (Nat.le_refl _) _).setCell (p := ⟨w.heap.size, 2, none⟩) (Nat.le_refl _) _).setCell (p := ⟨w.heap.size, 3, none⟩) (Nat.le_refl _) _).setCell (p := ⟨w.heap.size, 4, none⟩) (Nat.le_refl _) _)
          | some ss =>
            rw [hs] at He
            have Hend := Kept.mk (show Rem.line l = some ⟨5, n, 0, [], ss⟩ from He)
            clear He
            have Hs := Kept.mk hs
            clear hs
            rcases r' with _ | ⟨c, r''⟩
            · go_wp2_with fail
              all_goals
                refine (sets_none _ _ _).mono ?_
                intro e w4 hp
                unfold SetsPost at hp
                rw [Hs.out] at hp
                obtain ⟨⟨v4, rfl, hown⟩, hb4⟩ := hp
                obtain ⟨a4, cap4, hv⟩ := own_slice hown
                rw [hv] at hown ⊢
                have Hown := Kept.mk hown
                clear hown hv
                obtain ⟨hc4, hf4⟩ := bcell hb4
                have hB4 := below_next (hB3.setCell (p := ⟨b, 1, none⟩) (hwb) _) (hB3.setCell (p := ⟨b, 1, none⟩) (hwb) _).size hb4
                have q3 : b < w3.heap.size := by omega
                have q4 : w.heap.size < w3.heap.size := by omega
                go_wp2_with fail
                refine bodyPost_ret (v := .tuple #[.agg #[.int .i64 5, .int .i64 n, .int .u64 0, .string ⟨#[]⟩, .slice a4 ss.length cap4], .bool true]) (by simp [results, Tryz.results19, go_sem, c0, c1, c2, c3, c4, hc, q1, q2, n1, n2, m1, m2, m3, m4, m0, hc4, q3, q4, hsx] <;> omega) rfl ?_
                exact LinePost.yes (n := 0) Hend.out ((own_far (own_far (own_far (own_far (own_far (own_far Hown.out (by rw [hsx]; exact q3) _) (by rw [hsx]; exact q4) _) (by rw [hsx]; exact q4) _) (by rw [hsx]; exact q4) _) (by rw [hsx]; exact q4) _) (by rw [hsx]; exact q4) _).mono (by rw [hsx]; omega)) ((((((hB4.setCell (p := ⟨b, 4, none⟩) (hwb) _).setCell (p := ⟨w.heap.size, 0, none⟩) (Nat.le_refl _) _).setCell (p := ⟨w.heap.size, 1, none⟩) (Nat.le_refl _) _).setCell (p := ⟨w.heap.size, 2, none⟩) (Nat.le_refl _) _).setCell (p := ⟨w.heap.size, 3, none⟩) (Nat.le_refl _) _).setCell (p := ⟨w.heap.size, 4, none⟩) (Nat.le_refl _) _)
            · have hcap2 : ¬ cap = 2 := by simp at hg4; omega
              have hcells : Kept (∀ j x, (c :: r'')[j]? = some x → ∀ W, Below (w3.setCell ⟨b, 1, none⟩ (.int .i64 n)).heap.size (w3.setCell ⟨b, 1, none⟩ (.int .i64 n)) W → W.cell? ⟨g, 2 + j, none⟩ = some (.string ⟨x.toArray⟩)) := ⟨fun j x hj W hW => cell_later' (below_next Hbx.out Hbx.out.size hW) (Hall.out (2 + j) x (by rw [Nat.add_comm]; exact hj))⟩
              have hlen2 : Kept (∀ x ∈ c :: r'', x.length ≤ 1000000) := ⟨fun y hy => hlen.out y (by simp at hy ⊢; right; right; exact hy)⟩
              have hcnt := hr.out
              go_wp2_with fail
              all_goals
                refine (sets_some _ g 2 _ _ (c :: r'') ⟨rfl⟩ (by simp at hcnt ⊢; omega) hcells hlen2 hGx).mono ?_
                intro e w4 hp
                unfold SetsPost at hp
                rw [Hs.out] at hp
                obtain ⟨⟨v4, rfl, hown⟩, hb4⟩ := hp
                obtain ⟨a4, cap4, hv⟩ := own_slice hown
                rw [hv] at hown ⊢
                have Hown := Kept.mk hown
                clear hown hv
                obtain ⟨hc4, hf4⟩ := bcell hb4
                have hB4 := below_next (hB3.setCell (p := ⟨b, 1, none⟩) (hwb) _) (hB3.setCell (p := ⟨b, 1, none⟩) (hwb) _).size hb4
                have q3 : b < w3.heap.size := by omega
                have q4 : w.heap.size < w3.heap.size := by omega
                go_wp2_with fail
                refine bodyPost_ret (v := .tuple #[.agg #[.int .i64 5, .int .i64 n, .int .u64 0, .string ⟨#[]⟩, .slice a4 ss.length cap4], .bool true]) (by simp [results, Tryz.results19, go_sem, c0, c1, c2, c3, c4, hc, q1, q2, n1, n2, m1, m2, m3, m4, m0, hc4, q3, q4, hsx] <;> omega) rfl ?_
                exact LinePost.yes (n := 0) Hend.out ((own_far (own_far (own_far (own_far (own_far (own_far Hown.out (by rw [hsx]; exact q3) _) (by rw [hsx]; exact q4) _) (by rw [hsx]; exact q4) _) (by rw [hsx]; exact q4) _) (by rw [hsx]; exact q4) _) (by rw [hsx]; exact q4) _).mono (by rw [hsx]; omega)) ((((((hB4.setCell (p := ⟨b, 4, none⟩) (hwb) _).setCell (p := ⟨w.heap.size, 0, none⟩) (Nat.le_refl _) _).setCell (p := ⟨w.heap.size, 1, none⟩) (Nat.le_refl _) _).setCell (p := ⟨w.heap.size, 2, none⟩) (Nat.le_refl _) _).setCell (p := ⟨w.heap.size, 3, none⟩) (Nat.le_refl _) _).setCell (p := ⟨w.heap.size, 4, none⟩) (Nat.le_refl _) _)
      · rw [h] at m0 Hk
        have He := line_k67 hsp.out Hk.out (by decide)
        cases hn : Rem.wnumber a 999999999 with
        | none =>
          rw [hn] at He
          have Hno := Kept.mk He
          go_wp2_with fail
          refine (wnumber_bad a 999999999 hn _).mono ?_
          rintro e w3 ⟨rfl, hb3⟩
          obtain ⟨hc, hf⟩ := bcell hb3
          have hB3 := below_next hB hB.size hb3
          have hs3 := hb3.size
          clear He hn
          go_wp2_with fail
          all_goals
            refine bodyPost_ret (v := .tuple #[.agg #[.int .i64 0, .int .i64 0, .int .u64 0, .string ⟨#[]⟩, .slice none 0 0], .bool false]) (by simp [results, Tryz.results19, go_sem, c0, c1, c2, c3, c4, hc, q1, q2, n1, n2, m1, m2, m3, m4, m0] <;> omega) rfl ?_
            exact LinePost.no Hno.out _ _ _ ((((((hB3.setCell (p := ⟨b, 1, none⟩) (hwb) _).setCell (p := ⟨w.heap.size, 0, none⟩) (Nat.le_refl _) _).setCell (p := ⟨w.heap.size, 1, none⟩) (Nat.le_refl _) _).setCell (p := ⟨w.heap.size, 2, none⟩) (Nat.le_refl _) _).setCell (p := ⟨w.heap.size, 3, none⟩) (Nat.le_refl _) _).setCell (p := ⟨w.heap.size, 4, none⟩) (Nat.le_refl _) _)
        | some n =>
          rw [hn] at He
          dsimp only at He
          have hn6 := wnumber_le hn
          go_wp2_with fail
          refine (wnumber_good a 999999999 n hn _).mono ?_
          rintro e w3 ⟨rfl, hb3⟩
          obtain ⟨hc, hf⟩ := bcell hb3
          have hB3 := below_next hB hB.size hb3
          have hs3 := hb3.size
          clear hn
          by_cases hm2 : r' = []
          · rw [if_pos hm2] at He
            have Hyes := Kept.mk He
            have hl0 : r'.length = 0 := by rw [hm2]; rfl
            clear He
            go_wp2_with fail
            all_goals
              refine bodyPost_ret (v := .tuple #[.agg #[.int .i64 6, .int .i64 n, .int .u64 0, .string ⟨#[]⟩, .slice none 0 0], .bool true]) (by simp [results, Tryz.results19, go_sem, c0, c1, c2, c3, c4, hc, q1, q2, n1, n2, m1, m2, m3, m4, m0] <;> omega) rfl ?_
              exact LinePost.yes (n := 0) Hyes.out (World.ownsRow_nil _ _ _ _) ((((((hB3.setCell (p := ⟨b, 1, none⟩) (hwb) _).setCell (p := ⟨w.heap.size, 0, none⟩) (Nat.le_refl _) _).setCell (p := ⟨w.heap.size, 1, none⟩) (Nat.le_refl _) _).setCell (p := ⟨w.heap.size, 2, none⟩) (Nat.le_refl _) _).setCell (p := ⟨w.heap.size, 3, none⟩) (Nat.le_refl _) _).setCell (p := ⟨w.heap.size, 4, none⟩) (Nat.le_refl _) _)
          · rw [if_neg hm2] at He
            have Hno := Kept.mk He
            have hl0 : ¬ (r'.length : Int) = 0 := fun hh => hm2 (List.eq_nil_of_length_eq_zero (by omega))
            clear He hm2
            go_wp2_with fail
            all_goals
              refine bodyPost_ret (v := .tuple #[.agg #[.int .i64 6, .int .i64 n, .int .u64 0, .string ⟨#[]⟩, .slice none 0 0], .bool false]) (by simp [results, Tryz.results19, go_sem, c0, c1, c2, c3, c4, hc, q1, q2, n1, n2, m1, m2, m3, m4, m0] <;> omega) rfl ?_
              exact LinePost.no Hno.out _ _ _ ((((((hB3.setCell (p := ⟨b, 1, none⟩) (hwb) _).setCell (p := ⟨w.heap.size, 0, none⟩) (Nat.le_refl _) _).setCell (p := ⟨w.heap.size, 1, none⟩) (Nat.le_refl _) _).setCell (p := ⟨w.heap.size, 2, none⟩) (Nat.le_refl _) _).setCell (p := ⟨w.heap.size, 3, none⟩) (Nat.le_refl _) _).setCell (p := ⟨w.heap.size, 4, none⟩) (Nat.le_refl _) _)
      · rw [h] at m0 Hk
        have He := line_k67 hsp.out Hk.out (by decide)
        cases hn : Rem.wnumber a 999999999 with
        | none =>
          rw [hn] at He
          have Hno := Kept.mk He
          go_wp2_with fail
          refine (wnumber_bad a 999999999 hn _).mono ?_
          rintro e w3 ⟨rfl, hb3⟩
          obtain ⟨hc, hf⟩ := bcell hb3
          have hB3 := below_next hB hB.size hb3
          have hs3 := hb3.size
          clear He hn
          go_wp2_with fail
          all_goals
            refine bodyPost_ret (v := .tuple #[.agg #[.int .i64 0, .int .i64 0, .int .u64 0, .string ⟨#[]⟩, .slice none 0 0], .bool false]) (by simp [results, Tryz.results19, go_sem, c0, c1, c2, c3, c4, hc, q1, q2, n1, n2, m1, m2, m3, m4, m0] <;> omega) rfl ?_
            exact LinePost.no Hno.out _ _ _ ((((((hB3.setCell (p := ⟨b, 1, none⟩) (hwb) _).setCell (p := ⟨w.heap.size, 0, none⟩) (Nat.le_refl _) _).setCell (p := ⟨w.heap.size, 1, none⟩) (Nat.le_refl _) _).setCell (p := ⟨w.heap.size, 2, none⟩) (Nat.le_refl _) _).setCell (p := ⟨w.heap.size, 3, none⟩) (Nat.le_refl _) _).setCell (p := ⟨w.heap.size, 4, none⟩) (Nat.le_refl _) _)
        | some n =>
          rw [hn] at He
          dsimp only at He
          have hn6 := wnumber_le hn
          go_wp2_with fail
          refine (wnumber_good a 999999999 n hn _).mono ?_
          rintro e w3 ⟨rfl, hb3⟩
          obtain ⟨hc, hf⟩ := bcell hb3
          have hB3 := below_next hB hB.size hb3
          have hs3 := hb3.size
          clear hn
          by_cases hm2 : r' = []
          · rw [if_pos hm2] at He
            have Hyes := Kept.mk He
            have hl0 : r'.length = 0 := by rw [hm2]; rfl
            clear He
            go_wp2_with fail
            all_goals
              refine bodyPost_ret (v := .tuple #[.agg #[.int .i64 7, .int .i64 n, .int .u64 0, .string ⟨#[]⟩, .slice none 0 0], .bool true]) (by simp [results, Tryz.results19, go_sem, c0, c1, c2, c3, c4, hc, q1, q2, n1, n2, m1, m2, m3, m4, m0] <;> omega) rfl ?_
              exact LinePost.yes (n := 0) Hyes.out (World.ownsRow_nil _ _ _ _) ((((((hB3.setCell (p := ⟨b, 1, none⟩) (hwb) _).setCell (p := ⟨w.heap.size, 0, none⟩) (Nat.le_refl _) _).setCell (p := ⟨w.heap.size, 1, none⟩) (Nat.le_refl _) _).setCell (p := ⟨w.heap.size, 2, none⟩) (Nat.le_refl _) _).setCell (p := ⟨w.heap.size, 3, none⟩) (Nat.le_refl _) _).setCell (p := ⟨w.heap.size, 4, none⟩) (Nat.le_refl _) _)
          · rw [if_neg hm2] at He
            have Hno := Kept.mk He
            have hl0 : ¬ (r'.length : Int) = 0 := fun hh => hm2 (List.eq_nil_of_length_eq_zero (by omega))
            clear He hm2
            go_wp2_with fail
            all_goals
              refine bodyPost_ret (v := .tuple #[.agg #[.int .i64 7, .int .i64 n, .int .u64 0, .string ⟨#[]⟩, .slice none 0 0], .bool false]) (by simp [results, Tryz.results19, go_sem, c0, c1, c2, c3, c4, hc, q1, q2, n1, n2, m1, m2, m3, m4, m0] <;> omega) rfl ?_
              exact LinePost.no Hno.out _ _ _ ((((((hB3.setCell (p := ⟨b, 1, none⟩) (hwb) _).setCell (p := ⟨w.heap.size, 0, none⟩) (Nat.le_refl _) _).setCell (p := ⟨w.heap.size, 1, none⟩) (Nat.le_refl _) _).setCell (p := ⟨w.heap.size, 2, none⟩) (Nat.le_refl _) _).setCell (p := ⟨w.heap.size, 3, none⟩) (Nat.le_refl _) _).setCell (p := ⟨w.heap.size, 4, none⟩) (Nat.le_refl _) _)
end Go.Proofs.YtdlieanhdbbhiaaGreatDoor
