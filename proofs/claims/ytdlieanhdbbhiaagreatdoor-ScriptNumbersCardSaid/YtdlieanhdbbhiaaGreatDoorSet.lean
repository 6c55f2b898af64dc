/- Walks: script.set. -/
import Derived.Test.YtdlieanhdbbhiaaGreatDoorNumber
import Derived.RegionTactic
import Derived.ChangeAlike
set_option linter.unusedVariables false
set_option linter.unusedSimpArgs false
namespace Go.Proofs.YtdlieanhdbbhiaaGreatDoor
open Go.RowKit

/-- strings.CutPrefix at "-" -/
theorem dash_yes (d : Rem.Str) (w : World) :
    Calls Tryz.prog 94 #[.string ⟨(45 :: d).toArray⟩, .string ⟨#[45]⟩] w fun e w' => e = .returned (.tuple #[.string ⟨d.toArray⟩, .bool true]) ∧ w' = w := by
  refine (Tryz.strings_CutPrefix ⟨(45 :: d).toArray⟩ ⟨#[45]⟩ w).mono fun e w' ⟨he, hw⟩ => ⟨?_, hw⟩
  rw [he]
  have e1 : Lib.hasPrefix (45 :: d) [45] = true := by simp [Lib.hasPrefix, List.isPrefixOf]
  have e2 : Lib.trimPrefix (45 :: d) [45] = d := by simp [Lib.trimPrefix, e1]
  show Ending.returned (.tuple #[.string ⟨(Lib.trimPrefix (45 :: d) [45]).toArray⟩, .bool (Lib.hasPrefix (45 :: d) [45])]) = _
  rw [e1, e2]
theorem dash_no (v : Rem.Str) (hv : ∀ d, v ≠ 45 :: d) (w : World) :
    Calls Tryz.prog 94 #[.string ⟨v.toArray⟩, .string ⟨#[45]⟩] w fun e w' => e = .returned (.tuple #[.string ⟨v.toArray⟩, .bool false]) ∧ w' = w := by
  refine (Tryz.strings_CutPrefix ⟨v.toArray⟩ ⟨#[45]⟩ w).mono fun e w' ⟨he, hw⟩ => ⟨?_, hw⟩
  rw [he]
  have e1 : Lib.hasPrefix v [45] = false := by
    cases v with
    | nil => rfl
    | cons c r =>
      have : c ≠ 45 := fun e => hv r (by rw [e])
      simp [Lib.hasPrefix, List.isPrefixOf]
      exact fun e => this e.symm
  have e2 : Lib.trimPrefix v [45] = v := by simp [Lib.trimPrefix, e1]
  show Ending.returned (.tuple #[.string ⟨(Lib.trimPrefix v [45]).toArray⟩, .bool (Lib.hasPrefix v [45])]) = _
  rw [e1, e2]
/-- what stands behind a dash, and whether there is one -/
def dash (v : Rem.Str) : Rem.Str × Bool := match v with | c :: d => if c.toNat = 45 then (d, true) else (v, false) | [] => ([], false)
theorem dash_any (v : Rem.Str) (w : World) :
    Calls Tryz.prog 94 #[.string ⟨v.toArray⟩, .string ⟨#[45]⟩] w fun e w' => e = .returned (.tuple #[.string ⟨(dash v).1.toArray⟩, .bool (dash v).2]) ∧ w = w' := by
  match v with
  | [] => exact (dash_no [] (fun d h => by cases h) w).mono fun e w' ⟨he, hw⟩ => ⟨he, hw.symm⟩
  | c :: d =>
    by_cases h : c.toNat = 45
    · have hc : c = 45 := UInt8.toNat_inj.1 (by simpa using h)
      subst hc
      exact (dash_yes d w).mono fun e w' ⟨he, hw⟩ => ⟨he, hw.symm⟩
    · have e1 : dash (c :: d) = (c :: d, false) := by simp [dash, h]
      rw [e1]
      exact (dash_no (c :: d) (fun d' e => by cases e; exact h rfl) w).mono fun e w' ⟨he, hw⟩ => ⟨he, hw.symm⟩
theorem parseInt_ok (v : Rem.Str) (n : Int) (h : Lib.parseIntB 64 v = .ok n) (hs : v.length ≤ 1000000) (w : World) :
    Calls Tryz.prog 95 #[.string ⟨v.toArray⟩, .int .i64 10, .int .i64 64] w fun e w' => e = .returned (.tuple #[.int .i64 n, .nilIface]) ∧ Below w.heap.size w w' :=
  (Tryz.strconv_ParseInt_10_at64_ok ⟨v.toArray⟩ (by rw [size_mk]; omega) n h w).mono fun e w' ⟨he, hw⟩ =>
    ⟨he, by rcases hw with rfl | ⟨t, rfl⟩
            · exact Below.refl _ _
            · exact bytesWorld_below _ _ _⟩
theorem parseInt_over (v : Rem.Str) (h : Lib.parseIntB 64 v = .range) (hs : v.length ≤ 1000000) (w : World) (hG : Glob w) :
    Calls Tryz.prog 95 #[.string ⟨v.toArray⟩, .int .i64 10, .int .i64 64] w fun e w' => (∃ x N, e = .returned (.tuple #[.int .i64 x, .iface 233 (.pointer (some ⟨N, 0, none⟩))])) ∧ Below w.heap.size w w' := by
  obtain ⟨t, p, hv⟩ := hG.rng
  exact (Tryz.strconv_ParseInt_10_at64_range_var ⟨v.toArray⟩ (by rw [size_mk]; omega) h t p w hv).mono fun e w' ⟨N, he, _, _, hb⟩ => ⟨⟨_, N, he⟩, hb⟩
theorem number_both (l : Rem.Str) (w : World) (hs : l.length < 4294967281) :
    Calls Tryz.prog 33 #[.string ⟨l.toArray⟩] w fun e w' => e = .returned (.tuple #[.int .u64 ((Rem.number l).getD 0), .bool (Rem.number l).isSome]) ∧ Below w.heap.size w w' := by
  cases h : Rem.number l with
  | none => exact number_bad l h w hs
  | some n => exact number_good l n h w

def SetPost (l : Rem.Str) (w : World) (e : Ending) (w' : World) : Prop :=
  (match Rem.set l with
   | some (a, n) => e = .returned (.tuple #[.agg #[.int .i64 a, .int .i64 n], .bool true])
   | none => ∃ a n, e = .returned (.tuple #[.agg #[.int .i64 a, .int .i64 n], .bool false])) ∧ Below w.heap.size w w'
theorem SetPost.no {l : Rem.Str} {w w' : World} (h : Rem.set l = none) (a n : Int) (hb : Below w.heap.size w w') : SetPost l w (.returned (.tuple #[.agg #[.int .i64 a, .int .i64 n], .bool false])) w' := by
  unfold SetPost; rw [h]; exact ⟨⟨a, n, rfl⟩, hb⟩
theorem SetPost.yes {l : Rem.Str} {w w' : World} {a n : Int} (h : Rem.set l = some (a, n)) (hb : Below w.heap.size w w') : SetPost l w (.returned (.tuple #[.agg #[.int .i64 a, .int .i64 n], .bool true])) w' := by
  unfold SetPost; rw [h]; exact ⟨rfl, hb⟩

set_option maxRecDepth 1000000 in
set_option maxHeartbeats 400000 in
theorem set_none (l : Rem.Str) (hcut : Rem.cutAt 61 l = none) (hno : Rem.set l = none) (w : World) (hG : Glob w) (hs : l.length ≤ 1000000) :
    Calls Tryz.prog 56 #[.string ⟨l.toArray⟩] w (SetPost l w) := by
  have Hcut := Kept.mk hcut
  have Hno := Kept.mk hno
  clear hcut hno
  go_enter Tryz.func56, Tryz.ntmps56
  go_wp2_with fail
  refine (cut_no 61 l Hcut.out _ (hG.later ((Below.refl _ _).alloc (Nat.le_refl _) _)) (by omega)).mono ?_
  rintro e w1 ⟨rfl, n1, rfl⟩
  go_wp2_with fail
  refine (dash_any [] _).mono ?_
  rintro e w2 ⟨rfl, rfl⟩
  go_wp2_with fail
  refine (number_nil _).mono ?_
  rintro e w3 ⟨rfl, hb3⟩
  obtain ⟨hc, hf⟩ := bcell hb3
  have hb := (below_next (below_drewN ((Below.refl w.heap.size w).alloc (Nat.le_refl _) (Obj.cells #[Value.int IntKind.i64 0, Value.int IntKind.i64 0] 43)) n1) (by simp) hb3)
  go_wp2_with fail
  refine bodyPost_ret (v := .tuple #[.agg #[.int .i64 0, .int .i64 0], .bool false]) (by simp [results, Tryz.results56, go_sem, hc]) rfl ?_
  exact SetPost.no Hno.out _ _ ((hb.setCell (Nat.le_refl _) _).setCell (Nat.le_refl _) _)

set_option maxRecDepth 1000000 in
set_option maxHeartbeats 400000 in
theorem set_a0 (l : Rem.Str)  (v d : Rem.Str) (b : Bool) (Hcut : Kept (Rem.cutAt 61 l = some ([], v))) (Hno : Kept (Rem.set l = none)) (Hd : Kept (d = (dash v).1)) (Hb : Kept (b = (dash v).2)) (hdl : d.length ≤ 1000000)  (w : World) (hG : Glob w) (hs : l.length ≤ 1000000) :
    Calls Tryz.prog 56 #[.string ⟨l.toArray⟩] w (SetPost l w) := by
  go_enter Tryz.func56, Tryz.ntmps56
  go_wp2_with fail
  refine (cut_yes 61 l [] v Hcut.out _ (hG.later ((Below.refl _ _).alloc (Nat.le_refl _) _)) (by omega)).mono ?_
  rintro e w1 ⟨rfl, n1, rfl⟩
  go_wp2_with fail
  refine (dash_any v _).mono ?_
  rintro e w2 ⟨rfl, rfl⟩
  rw [← Hd.out, ← Hb.out]
  go_wp2_with fail
  refine (number_both d _ (by omega)).mono ?_
  rintro e w3 ⟨rfl, hb3⟩
  obtain ⟨hc, hf⟩ := bcell hb3
  have hb := (below_next (below_drewN ((Below.refl w.heap.size w).alloc (Nat.le_refl _) (Obj.cells #[Value.int IntKind.i64 0, Value.int IntKind.i64 0] 43)) n1) (by simp) hb3)
  generalize (Rem.number d).getD 0 = n
  generalize (Rem.number d).isSome = s
  go_wp2_with fail
  all_goals
    refine bodyPost_ret (v := .tuple #[.agg #[.int .i64 0, .int .i64 0], .bool false]) (by simp [results, Tryz.results56, go_sem, hc]) rfl ?_
    exact SetPost.no Hno.out _ _ ((hb.setCell (Nat.le_refl _) _).setCell (Nat.le_refl _) _)

set_option maxRecDepth 1000000 in
set_option maxHeartbeats 400000 in
theorem set_a2 (l : Rem.Str) (x y : UInt8) (r : Rem.Str) (v d : Rem.Str) (b : Bool) (Hcut : Kept (Rem.cutAt 61 l = some (x :: y :: r, v))) (Hno : Kept (Rem.set l = none)) (Hd : Kept (d = (dash v).1)) (Hb : Kept (b = (dash v).2)) (hdl : d.length ≤ 1000000)  (w : World) (hG : Glob w) (hs : l.length ≤ 1000000) :
    Calls Tryz.prog 56 #[.string ⟨l.toArray⟩] w (SetPost l w) := by
  have h1 : (((r.length : Int) + 1 + 1) == 1) = false := by rw [beq_eq_false_iff_ne]; omega
  go_enter Tryz.func56, Tryz.ntmps56
  go_wp2_with fail
  refine (cut_yes 61 l (x :: y :: r) v Hcut.out _ (hG.later ((Below.refl _ _).alloc (Nat.le_refl _) _)) (by omega)).mono ?_
  rintro e w1 ⟨rfl, n1, rfl⟩
  go_wp2_with fail
  refine (dash_any v _).mono ?_
  rintro e w2 ⟨rfl, rfl⟩
  rw [← Hd.out, ← Hb.out]
  go_wp2_with fail
  refine (number_both d _ (by omega)).mono ?_
  rintro e w3 ⟨rfl, hb3⟩
  obtain ⟨hc, hf⟩ := bcell hb3
  have hb := (below_next (below_drewN ((Below.refl w.heap.size w).alloc (Nat.le_refl _) (Obj.cells #[Value.int IntKind.i64 0, Value.int IntKind.i64 0] 43)) n1) (by simp) hb3)
  generalize (Rem.number d).getD 0 = n
  generalize (Rem.number d).isSome = s
  go_wp2_with fail
  all_goals
    refine bodyPost_ret (v := .tuple #[.agg #[.int .i64 0, .int .i64 0], .bool false]) (by simp [results, Tryz.results56, go_sem, hc]) rfl ?_
    exact SetPost.no Hno.out _ _ ((hb.setCell (Nat.le_refl _) _).setCell (Nat.le_refl _) _)

set_option maxRecDepth 1000000 in
set_option maxHeartbeats 400000 in
theorem set_low (l : Rem.Str) (x : UInt8) (v d : Rem.Str) (b : Bool) (Hcut : Kept (Rem.cutAt 61 l = some ([x], v))) (Hno : Kept (Rem.set l = none)) (Hd : Kept (d = (dash v).1)) (Hb : Kept (b = (dash v).2)) (hdl : d.length ≤ 1000000) (hx : (x.toNat : Int) < 97) (w : World) (hG : Glob w) (hs : l.length ≤ 1000000) :
    Calls Tryz.prog 56 #[.string ⟨l.toArray⟩] w (SetPost l w) := by
  have hix : ∀ h, (⟨#[x]⟩ : ByteArray)[0]'h = x := fun _ => rfl
  go_enter Tryz.func56, Tryz.ntmps56
  go_wp2_with fail
  refine (cut_yes 61 l [x] v Hcut.out _ (hG.later ((Below.refl _ _).alloc (Nat.le_refl _) _)) (by omega)).mono ?_
  rintro e w1 ⟨rfl, n1, rfl⟩
  go_wp2_with fail
  refine (dash_any v _).mono ?_
  rintro e w2 ⟨rfl, rfl⟩
  rw [← Hd.out, ← Hb.out]
  go_wp2_with fail
  refine (number_both d _ (by omega)).mono ?_
  rintro e w3 ⟨rfl, hb3⟩
  obtain ⟨hc, hf⟩ := bcell hb3
  have hb := (below_next (below_drewN ((Below.refl w.heap.size w).alloc (Nat.le_refl _) (Obj.cells #[Value.int IntKind.i64 0, Value.int IntKind.i64 0] 43)) n1) (by simp) hb3)
  generalize (Rem.number d).getD 0 = n
  generalize (Rem.number d).isSome = s
  go_wp2_with fail
  all_goals
    refine bodyPost_ret (v := .tuple #[.agg #[.int .i64 0, .int .i64 0], .bool false]) (by simp [results, Tryz.results56, go_sem, hc]) rfl ?_
    exact SetPost.no Hno.out _ _ ((hb.setCell (Nat.le_refl _) _).setCell (Nat.le_refl _) _)

set_option maxRecDepth 1000000 in
set_option maxHeartbeats 400000 in
theorem set_high (l : Rem.Str) (x : UInt8) (v d : Rem.Str) (b : Bool) (Hcut : Kept (Rem.cutAt 61 l = some ([x], v))) (Hno : Kept (Rem.set l = none)) (Hd : Kept (d = (dash v).1)) (Hb : Kept (b = (dash v).2)) (hdl : d.length ≤ 1000000) (hx : 122 < (x.toNat : Int)) (w : World) (hG : Glob w) (hs : l.length ≤ 1000000) :
    Calls Tryz.prog 56 #[.string ⟨l.toArray⟩] w (SetPost l w) := by
  have hix : ∀ h, (⟨#[x]⟩ : ByteArray)[0]'h = x := fun _ => rfl
  have hx1 : ¬ (x.toNat : Int) < 97 := by omega
  go_enter Tryz.func56, Tryz.ntmps56
  go_wp2_with fail
  refine (cut_yes 61 l [x] v Hcut.out _ (hG.later ((Below.refl _ _).alloc (Nat.le_refl _) _)) (by omega)).mono ?_
  rintro e w1 ⟨rfl, n1, rfl⟩
  go_wp2_with fail
  refine (dash_any v _).mono ?_
  rintro e w2 ⟨rfl, rfl⟩
  rw [← Hd.out, ← Hb.out]
  go_wp2_with fail
  refine (number_both d _ (by omega)).mono ?_
  rintro e w3 ⟨rfl, hb3⟩
  obtain ⟨hc, hf⟩ := bcell hb3
  have hb := (below_next (below_drewN ((Below.refl w.heap.size w).alloc (Nat.le_refl _) (Obj.cells #[Value.int IntKind.i64 0, Value.int IntKind.i64 0] 43)) n1) (by simp) hb3)
  generalize (Rem.number d).getD 0 = n
  generalize (Rem.number d).isSome = s
  go_wp2_with fail
  all_goals
    refine bodyPost_ret (v := .tuple #[.agg #[.int .i64 0, .int .i64 0], .bool false]) (by simp [results, Tryz.results56, go_sem, hc]) rfl ?_
    exact SetPost.no Hno.out _ _ ((hb.setCell (Nat.le_refl _) _).setCell (Nat.le_refl _) _)

set_option maxRecDepth 1000000 in
set_option maxHeartbeats 400000 in
theorem set_num (l : Rem.Str) (x : UInt8) (v d : Rem.Str) (b : Bool) (Hcut : Kept (Rem.cutAt 61 l = some ([x], v))) (Hno : Kept (Rem.set l = none)) (Hd : Kept (d = (dash v).1)) (Hb : Kept (b = (dash v).2)) (hdl : d.length ≤ 1000000) (hx1 : ¬ (x.toNat : Int) < 97) (hx2 : ¬ 122 < (x.toNat : Int)) (Hn : Kept (Rem.number d = none)) (w : World) (hG : Glob w) (hs : l.length ≤ 1000000) :
    Calls Tryz.prog 56 #[.string ⟨l.toArray⟩] w (SetPost l w) := by
  have hix : ∀ h, (⟨#[x]⟩ : ByteArray)[0]'h = x := fun _ => rfl
  go_enter Tryz.func56, Tryz.ntmps56
  go_wp2_with fail
  refine (cut_yes 61 l [x] v Hcut.out _ (hG.later ((Below.refl _ _).alloc (Nat.le_refl _) _)) (by omega)).mono ?_
  rintro e w1 ⟨rfl, n1, rfl⟩
  go_wp2_with fail
  refine (dash_any v _).mono ?_
  rintro e w2 ⟨rfl, rfl⟩
  rw [← Hd.out, ← Hb.out]
  go_wp2_with fail
  refine (number_both d _ (by omega)).mono ?_
  rintro e w3 ⟨rfl, hb3⟩
  obtain ⟨hc, hf⟩ := bcell hb3
  have hb := (below_next (below_drewN ((Below.refl w.heap.size w).alloc (Nat.le_refl _) (Obj.cells #[Value.int IntKind.i64 0, Value.int IntKind.i64 0] 43)) n1) (by simp) hb3)
  rw [Hn.out]
  simp only [Option.getD_none, Option.isSome_none, Option.getD_some, Option.isSome_some]
  go_wp2_with fail
  all_goals
    refine bodyPost_ret (v := .tuple #[.agg #[.int .i64 0, .int .i64 0], .bool false]) (by simp [results, Tryz.results56, go_sem, hc]) rfl ?_
    exact SetPost.no Hno.out _ _ ((hb.setCell (Nat.le_refl _) _).setCell (Nat.le_refl _) _)

set_option maxRecDepth 1000000 in
set_option maxHeartbeats 400000 in
theorem set_zero (l : Rem.Str) (x : UInt8) (v d : Rem.Str) (b : Bool) (Hcut : Kept (Rem.cutAt 61 l = some ([x], v))) (Hno : Kept (Rem.set l = none)) (Hd : Kept (d = (dash v).1)) (Hb : Kept (b = (dash v).2)) (hdl : d.length ≤ 1000000) (hx1 : ¬ (x.toNat : Int) < 97) (hx2 : ¬ 122 < (x.toNat : Int)) (Hn : Kept (Rem.number d = some 0)) (hbt : b = true) (w : World) (hG : Glob w) (hs : l.length ≤ 1000000) :
    Calls Tryz.prog 56 #[.string ⟨l.toArray⟩] w (SetPost l w) := by
  have hix : ∀ h, (⟨#[x]⟩ : ByteArray)[0]'h = x := fun _ => rfl
  subst hbt
  go_enter Tryz.func56, Tryz.ntmps56
  go_wp2_with fail
  refine (cut_yes 61 l [x] v Hcut.out _ (hG.later ((Below.refl _ _).alloc (Nat.le_refl _) _)) (by omega)).mono ?_
  rintro e w1 ⟨rfl, n1, rfl⟩
  go_wp2_with fail
  refine (dash_any v _).mono ?_
  rintro e w2 ⟨rfl, rfl⟩
  rw [← Hd.out, ← Hb.out]
  go_wp2_with fail
  refine (number_both d _ (by omega)).mono ?_
  rintro e w3 ⟨rfl, hb3⟩
  obtain ⟨hc, hf⟩ := bcell hb3
  have hb := (below_next (below_drewN ((Below.refl w.heap.size w).alloc (Nat.le_refl _) (Obj.cells #[Value.int IntKind.i64 0, Value.int IntKind.i64 0] 43)) n1) (by simp) hb3)
  rw [Hn.out]
  simp only [Option.getD_none, Option.isSome_none, Option.getD_some, Option.isSome_some]
  go_wp2_with fail
  all_goals
    refine bodyPost_ret (v := .tuple #[.agg #[.int .i64 0, .int .i64 0], .bool false]) (by simp [results, Tryz.results56, go_sem, hc]) rfl ?_
    exact SetPost.no Hno.out _ _ ((hb.setCell (Nat.le_refl _) _).setCell (Nat.le_refl _) _)


set_option maxRecDepth 1000000 in
set_option maxHeartbeats 400000 in
theorem set_go_f (l : Rem.Str) (x : UInt8) (v d : Rem.Str) (n : Nat) (z : Int) (Hyes : Kept (Rem.set l = some ((x.toNat : Int) - 97, z))) (Hz : Kept (Lib.parseIntB 64 v = .ok z)) (Hcut : Kept (Rem.cutAt 61 l = some ([x], v))) (Hd : Kept (d = (dash v).1)) (Hb : Kept (false = (dash v).2)) (hdl : d.length ≤ 1000000) (hx1 : ¬ (x.toNat : Int) < 97) (hx2 : ¬ 122 < (x.toNat : Int)) (Hn : Kept (Rem.number d = some n)) 
    (w : World) (hG : Glob w) (hs : l.length ≤ 1000000) (hvl : v.length ≤ 1000000) :
    Calls Tryz.prog 56 #[.string ⟨l.toArray⟩] w (SetPost l w) := by
  have hix : ∀ h, (⟨#[x]⟩ : ByteArray)[0]'h = x := fun _ => rfl
  go_enter Tryz.func56, Tryz.ntmps56
  go_wp2_with fail
  refine (cut_yes 61 l [x] v Hcut.out _ (hG.later ((Below.refl _ _).alloc (Nat.le_refl _) _)) (by omega)).mono ?_
  rintro e w1 ⟨rfl, n1, rfl⟩
  go_wp2_with fail
  refine (dash_any v _).mono ?_
  rintro e w2 ⟨rfl, rfl⟩
  rw [← Hd.out, ← Hb.out]
  go_wp2_with fail
  refine (number_both d _ (by omega)).mono ?_
  rintro e w3 ⟨rfl, hb3⟩
  obtain ⟨hc, hf⟩ := bcell hb3
  have hb := (below_next (below_drewN ((Below.refl w.heap.size w).alloc (Nat.le_refl _) (Obj.cells #[Value.int IntKind.i64 0, Value.int IntKind.i64 0] 43)) n1) (by simp) hb3)
  rw [Hn.out]
  simp only [Option.getD_none, Option.isSome_none, Option.getD_some, Option.isSome_some]
  go_wp2_with fail
  refine (parseInt_ok v z Hz.out hvl _).mono ?_
  rintro e w4 ⟨rfl, hb4⟩
  obtain ⟨hc4, hf4⟩ := bcell hb4
  have hz3 : w.heap.size < w3.heap.size := by have := hb3.size; simp at this; omega
  go_wp2_with fail
  go_region
  go_wp2
  refine bodyPost_ret (v := .tuple #[.agg #[.int .i64 ((x.toNat : Int) - 97), .int .i64 z], .bool true]) (by simp [results, Tryz.results56, go_sem, hc4, hc, hz3]) rfl ?_
  exact SetPost.yes Hyes.out (((below_next hb hb.size hb4).setCell (Nat.le_refl _) _).setCell (Nat.le_refl _) _).drew

set_option maxRecDepth 1000000 in
set_option maxHeartbeats 400000 in
theorem set_go_t (l : Rem.Str) (x : UInt8) (v d : Rem.Str) (n : Nat) (z : Int) (Hyes : Kept (Rem.set l = some ((x.toNat : Int) - 97, z))) (Hz : Kept (Lib.parseIntB 64 v = .ok z)) (Hcut : Kept (Rem.cutAt 61 l = some ([x], v))) (Hd : Kept (d = (dash v).1)) (Hb : Kept (true = (dash v).2)) (hdl : d.length ≤ 1000000) (hx1 : ¬ (x.toNat : Int) < 97) (hx2 : ¬ 122 < (x.toNat : Int)) (Hn : Kept (Rem.number d = some n)) (hn0 : ((n : Int) == 0) = false) 
    (w : World) (hG : Glob w) (hs : l.length ≤ 1000000) (hvl : v.length ≤ 1000000) :
    Calls Tryz.prog 56 #[.string ⟨l.toArray⟩] w (SetPost l w) := by
  have hix : ∀ h, (⟨#[x]⟩ : ByteArray)[0]'h = x := fun _ => rfl
  go_enter Tryz.func56, Tryz.ntmps56
  go_wp2_with fail
  refine (cut_yes 61 l [x] v Hcut.out _ (hG.later ((Below.refl _ _).alloc (Nat.le_refl _) _)) (by omega)).mono ?_
  rintro e w1 ⟨rfl, n1, rfl⟩
  go_wp2_with fail
  refine (dash_any v _).mono ?_
  rintro e w2 ⟨rfl, rfl⟩
  rw [← Hd.out, ← Hb.out]
  go_wp2_with fail
  refine (number_both d _ (by omega)).mono ?_
  rintro e w3 ⟨rfl, hb3⟩
  obtain ⟨hc, hf⟩ := bcell hb3
  have hb := (below_next (below_drewN ((Below.refl w.heap.size w).alloc (Nat.le_refl _) (Obj.cells #[Value.int IntKind.i64 0, Value.int IntKind.i64 0] 43)) n1) (by simp) hb3)
  rw [Hn.out]
  simp only [Option.getD_none, Option.isSome_none, Option.getD_some, Option.isSome_some]
  go_wp2_with fail
  refine (parseInt_ok v z Hz.out hvl _).mono ?_
  rintro e w4 ⟨rfl, hb4⟩
  obtain ⟨hc4, hf4⟩ := bcell hb4
  have hz3 : w.heap.size < w3.heap.size := by have := hb3.size; simp at this; omega
  go_wp2_with fail
  go_region
  go_wp2
  refine bodyPost_ret (v := .tuple #[.agg #[.int .i64 ((x.toNat : Int) - 97), .int .i64 z], .bool true]) (by simp [results, Tryz.results56, go_sem, hc4, hc, hz3]) rfl ?_
  exact SetPost.yes Hyes.out (((below_next hb hb.size hb4).setCell (Nat.le_refl _) _).setCell (Nat.le_refl _) _).drew

set_option maxRecDepth 1000000 in
set_option maxHeartbeats 400000 in
theorem set_over_f (l : Rem.Str) (x : UInt8) (v d : Rem.Str) (n : Nat) (Hno : Kept (Rem.set l = none)) (Hz : Kept (Lib.parseIntB 64 v = .range)) (Hcut : Kept (Rem.cutAt 61 l = some ([x], v))) (Hd : Kept (d = (dash v).1)) (Hb : Kept (false = (dash v).2)) (hdl : d.length ≤ 1000000) (hx1 : ¬ (x.toNat : Int) < 97) (hx2 : ¬ 122 < (x.toNat : Int)) (Hn : Kept (Rem.number d = some n)) 
    (w : World) (hG : Glob w) (hs : l.length ≤ 1000000) (hvl : v.length ≤ 1000000) :
    Calls Tryz.prog 56 #[.string ⟨l.toArray⟩] w (SetPost l w) := by
  have hix : ∀ h, (⟨#[x]⟩ : ByteArray)[0]'h = x := fun _ => rfl
  go_enter Tryz.func56, Tryz.ntmps56
  go_wp2_with fail
  refine (cut_yes 61 l [x] v Hcut.out _ (hG.later ((Below.refl _ _).alloc (Nat.le_refl _) _)) (by omega)).mono ?_
  rintro e w1 ⟨rfl, n1, rfl⟩
  go_wp2_with fail
  refine (dash_any v _).mono ?_
  rintro e w2 ⟨rfl, rfl⟩
  rw [← Hd.out, ← Hb.out]
  go_wp2_with fail
  refine (number_both d _ (by omega)).mono ?_
  rintro e w3 ⟨rfl, hb3⟩
  obtain ⟨hc, hf⟩ := bcell hb3
  have hb := (below_next (below_drewN ((Below.refl w.heap.size w).alloc (Nat.le_refl _) (Obj.cells #[Value.int IntKind.i64 0, Value.int IntKind.i64 0] 43)) n1) (by simp) hb3)
  rw [Hn.out]
  simp only [Option.getD_none, Option.isSome_none, Option.getD_some, Option.isSome_some]
  go_wp2_with fail
  refine (parseInt_over v Hz.out hvl _ (hG.later hb)).mono ?_
  rintro e w4 ⟨⟨z, N, rfl⟩, hb4⟩
  obtain ⟨hc4, hf4⟩ := bcell hb4
  have hz3 : w.heap.size < w3.heap.size := by have := hb3.size; simp at this; omega
  go_wp2_with fail
  go_region
  go_wp2
  refine bodyPost_ret (v := .tuple #[.agg #[.int .i64 ((x.toNat : Int) - 97), .int .i64 z], .bool false]) (by simp [results, Tryz.results56, go_sem, hc4, hc, hz3]) rfl ?_
  exact SetPost.no Hno.out _ _ (((below_next hb hb.size hb4).setCell (Nat.le_refl _) _).setCell (Nat.le_refl _) _).drew

set_option maxRecDepth 1000000 in
set_option maxHeartbeats 400000 in
theorem set_over_t (l : Rem.Str) (x : UInt8) (v d : Rem.Str) (n : Nat) (Hno : Kept (Rem.set l = none)) (Hz : Kept (Lib.parseIntB 64 v = .range)) (Hcut : Kept (Rem.cutAt 61 l = some ([x], v))) (Hd : Kept (d = (dash v).1)) (Hb : Kept (true = (dash v).2)) (hdl : d.length ≤ 1000000) (hx1 : ¬ (x.toNat : Int) < 97) (hx2 : ¬ 122 < (x.toNat : Int)) (Hn : Kept (Rem.number d = some n)) (hn0 : ((n : Int) == 0) = false) 
    (w : World) (hG : Glob w) (hs : l.length ≤ 1000000) (hvl : v.length ≤ 1000000) :
    Calls Tryz.prog 56 #[.string ⟨l.toArray⟩] w (SetPost l w) := by
  have hix : ∀ h, (⟨#[x]⟩ : ByteArray)[0]'h = x := fun _ => rfl
  go_enter Tryz.func56, Tryz.ntmps56
  go_wp2_with fail
  refine (cut_yes 61 l [x] v Hcut.out _ (hG.later ((Below.refl _ _).alloc (Nat.le_refl _) _)) (by omega)).mono ?_
  rintro e w1 ⟨rfl, n1, rfl⟩
  go_wp2_with fail
  refine (dash_any v _).mono ?_
  rintro e w2 ⟨rfl, rfl⟩
  rw [← Hd.out, ← Hb.out]
  go_wp2_with fail
  refine (number_both d _ (by omega)).mono ?_
  rintro e w3 ⟨rfl, hb3⟩
  obtain ⟨hc, hf⟩ := bcell hb3
  have hb := (below_next (below_drewN ((Below.refl w.heap.size w).alloc (Nat.le_refl _) (Obj.cells #[Value.int IntKind.i64 0, Value.int IntKind.i64 0] 43)) n1) (by simp) hb3)
  rw [Hn.out]
  simp only [Option.getD_none, Option.isSome_none, Option.getD_some, Option.isSome_some]
  go_wp2_with fail
  refine (parseInt_over v Hz.out hvl _ (hG.later hb)).mono ?_
  rintro e w4 ⟨⟨z, N, rfl⟩, hb4⟩
  obtain ⟨hc4, hf4⟩ := bcell hb4
  have hz3 : w.heap.size < w3.heap.size := by have := hb3.size; simp at this; omega
  go_wp2_with fail
  go_region
  go_wp2
  refine bodyPost_ret (v := .tuple #[.agg #[.int .i64 ((x.toNat : Int) - 97), .int .i64 z], .bool false]) (by simp [results, Tryz.results56, go_sem, hc4, hc, hz3]) rfl ?_
  exact SetPost.no Hno.out _ _ (((below_next hb hb.size hb4).setCell (Nat.le_refl _) _).setCell (Nat.le_refl _) _).drew

theorem dash_len (v : Rem.Str) : (dash v).1.length ≤ v.length := by
  unfold dash
  cases v with
  | nil => simp
  | cons c d => simp only; split <;> simp
theorem set_shape (l : Rem.Str) : Rem.set l = match Rem.cutAt 61 l with
    | some ([x], v) => if 97 ≤ x.toNat ∧ x.toNat ≤ 122 then (Rem.whole v).map fun n => (((x.toNat - 97 : Nat) : Int), n) else none
    | _ => none := by
  match l with
  | [] => rfl
  | [x] =>
    have : Rem.set [x] = none := rfl
    rw [this]
    by_cases h : x = 61
    · simp [Rem.cutAt, h]
    · simp [Rem.cutAt, h]
  | x :: e :: v =>
    unfold Rem.set
    by_cases hx : x = 61
    · subst hx
      simp [Rem.cutAt]
    · by_cases he : e = 61
      · subst he
        simp only [Rem.cutAt, if_neg hx, if_true, Option.map_some]
        have : (61 : UInt8).toNat = 61 := rfl
        simp only [this, and_true]
      · have h61 : ¬ e.toNat = 61 := fun h => he (UInt8.toNat_inj.1 (by simpa using h))
        simp only [Rem.cutAt, if_neg hx, if_neg he, h61, and_false, if_false]
        cases hc : Rem.cutAt 61 v with
        | none => simp
        | some p => simp
theorem whole_shape (v : Rem.Str) : Rem.whole v = match Rem.number (dash v).1 with
    | none => none
    | some n => if (dash v).2 = true ∧ n = 0 then none else match Lib.parseIntB 64 v with | .ok z => some z | _ => none := by
  unfold Rem.whole
  match v with
  | [] =>
    have : Rem.number (dash []).1 = none := rfl
    rw [this]
  | c :: d =>
    by_cases h45 : c.toNat = 45
    · have hd : dash (c :: d) = (d, true) := by simp [dash, h45]
      simp only [h45, if_true, hd]
      cases hn : Rem.number d with
      | none => rfl
      | some n =>
        have hc : c = 45 := UInt8.toNat_inj.1 (by simpa using h45)
        subst hc
        unfold Rem.number Rem.digits at hn
        split at hn
        · rename_i hq
          obtain ⟨q1, q2, q3, q4⟩ := hq
          cases hn
          simp only
          rw [Rem.parseInt_neg d q1 q2 q4]
          by_cases h0 : Rem.val d = 0
          · simp [h0]
          · by_cases hv : 9223372036854775808 < Rem.val d
            · rw [if_pos (Or.inr hv), if_pos hv]; simp [h0]
            · rw [if_neg (by omega), if_neg hv]; simp [h0]
        · cases hn
    · have hd : dash (c :: d) = (c :: d, false) := by simp [dash, h45]
      simp only [if_neg h45, hd]
      cases hn : Rem.number (c :: d) with
      | none => rfl
      | some n =>
        unfold Rem.number Rem.digits at hn
        split at hn
        · rename_i hq
          obtain ⟨q1, q2, q3, q4⟩ := hq
          cases hn
          simp only
          rw [Rem.parseInt_pos c d q2 q4]
          by_cases hv : 9223372036854775807 < Rem.val (c :: d)
          · rw [if_pos hv, if_pos hv]; simp
          · rw [if_neg hv, if_neg hv]; simp
        · cases hn
theorem num_ends (v : Rem.Str) (n : Nat) (h : Rem.number (dash v).1 = some n) : (∃ z, Lib.parseIntB 64 v = .ok z) ∨ Lib.parseIntB 64 v = .range := by
  match v with
  | [] =>
    have : Rem.number (dash []).1 = none := rfl
    rw [this] at h; cases h
  | c :: d =>
    unfold Rem.number Rem.digits at h
    split at h
    · rename_i hq
      obtain ⟨q1, q2, q3, q4⟩ := hq
      by_cases h45 : c.toNat = 45
      · have hd : dash (c :: d) = (d, true) := by simp [dash, h45]
        rw [hd] at q1 q2 q4
        have hc : c = 45 := UInt8.toNat_inj.1 (by simpa using h45)
        subst hc
        rw [Rem.parseInt_neg d q1 q2 q4]
        split <;> simp
      · have hd : dash (c :: d) = (c :: d, false) := by simp [dash, h45]
        rw [hd] at q1 q2 q4
        rw [Rem.parseInt_pos c d q2 q4]
        split <;> simp
    · cases h

/-- script.set, whatever the word -/
theorem set_any (l : Rem.Str) (w : World) (hG : Glob w) (hs : l.length ≤ 1000000) :
    Calls Tryz.prog 56 #[.string ⟨l.toArray⟩] w (SetPost l w) := by
  have sh := set_shape l
  cases hcut : Rem.cutAt 61 l with
  | none =>
    rw [hcut] at sh
    exact set_none l hcut sh w hG hs
  | some p =>
    obtain ⟨a, v⟩ := p
    have hl := Rem.cutAt_eq hcut
    have hll : l.length = a.length + (v.length + 1) := by rw [hl]; simp
    have hdl := dash_len v
    rw [hcut] at sh
    match a, hcut, sh, hll with
    | [], hcut, sh, _ => exact set_a0 l v _ _ ⟨hcut⟩ ⟨sh⟩ ⟨rfl⟩ ⟨rfl⟩ (by omega) w hG hs
    | x :: y :: r, hcut, sh, hll => exact set_a2 l x y r v _ _ ⟨hcut⟩ ⟨sh⟩ ⟨rfl⟩ ⟨rfl⟩ (by simp at hll; omega) w hG hs
    | [x], hcut, sh, hll =>
      have hvl : v.length ≤ 1000000 := by simp at hll; omega
      by_cases h1 : x.toNat < 97
      · exact set_low l x v _ _ ⟨hcut⟩ ⟨by rw [sh]; simp only; rw [if_neg (by omega)]⟩ ⟨rfl⟩ ⟨rfl⟩ (by omega) (by omega) w hG hs
      · by_cases h2 : 122 < x.toNat
        · exact set_high l x v _ _ ⟨hcut⟩ ⟨by rw [sh]; simp only; rw [if_neg (by omega)]⟩ ⟨rfl⟩ ⟨rfl⟩ (by omega) (by omega) w hG hs
        · simp only at sh
          rw [if_pos ⟨by omega, by omega⟩, whole_shape v] at sh
          cases hn : Rem.number (dash v).1 with
          | none =>
            rw [hn] at sh
            exact set_num l x v _ _ ⟨hcut⟩ ⟨sh⟩ ⟨rfl⟩ ⟨rfl⟩ (by omega) (by omega) (by omega) ⟨hn⟩ w hG hs
          | some n =>
            rw [hn] at sh
            simp only at sh
            by_cases hz : (dash v).2 = true ∧ n = 0
            · obtain ⟨hz1, rfl⟩ := hz
              rw [if_pos ⟨hz1, rfl⟩] at sh
              exact set_zero l x v _ _ ⟨hcut⟩ ⟨sh⟩ ⟨rfl⟩ ⟨rfl⟩ (by omega) (by omega) (by omega) ⟨hn⟩ hz1 w hG hs
            · rw [if_neg hz] at sh
              rcases num_ends v n hn with ⟨z, hp⟩ | hp
              case inr =>
                rw [hp] at sh
                cases hb : (dash v).2 with
                | false => exact set_over_f l x v _ n ⟨sh⟩ ⟨hp⟩ ⟨hcut⟩ ⟨rfl⟩ ⟨hb.symm⟩ (by omega) (by omega) (by omega) ⟨hn⟩ w hG hs hvl
                | true => exact set_over_t l x v _ n ⟨sh⟩ ⟨hp⟩ ⟨hcut⟩ ⟨rfl⟩ ⟨hb.symm⟩ (by omega) (by omega) (by omega) ⟨hn⟩ (by rw [beq_eq_false_iff_ne]; intro e; exact hz ⟨hb, by omega⟩) w hG hs hvl
              case inl =>
                rw [hp] at sh
                have sh2 : Rem.set l = some ((x.toNat : Int) - 97, z) := by
                  rw [sh]; simp; omega
                cases hb : (dash v).2 with
                | false => exact set_go_f l x v _ n z ⟨sh2⟩ ⟨hp⟩ ⟨hcut⟩ ⟨rfl⟩ ⟨hb.symm⟩ (by omega) (by omega) (by omega) ⟨hn⟩ w hG hs hvl
                | true => exact set_go_t l x v _ n z ⟨sh2⟩ ⟨hp⟩ ⟨hcut⟩ ⟨rfl⟩ ⟨hb.symm⟩ (by omega) (by omega) (by omega) ⟨hn⟩ (by rw [beq_eq_false_iff_ne]; intro e; exact hz ⟨hb, by omega⟩) w hG hs hvl
end Go.Proofs.YtdlieanhdbbhiaaGreatDoor
