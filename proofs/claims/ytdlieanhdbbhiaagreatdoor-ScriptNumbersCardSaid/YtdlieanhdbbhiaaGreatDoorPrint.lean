/- Walk: script.Print, of every op with opFits. -/
import Derived.Test.YtdlieanhdbbhiaaGreatDoorBuilder
import Derived.Test.YtdlieanhdbbhiaaGreatDoorRound
import Derived.Test.YtdlieanhdbbhiaaGreatDoorParse
import Derived.Deep.DeepCutAuto
import Derived.StillTailTactics
set_option linter.unusedVariables false
set_option linter.unusedSimpArgs false
namespace Go.Proofs.YtdlieanhdbbhiaaGreatDoor
open Go.RowKit

/-- a slice of ops, as it lies -/
def OpsIn (w : World) (a : Option Addr) (l : List Rem.Op) : Prop := ∀ (j : Nat) (o : Rem.Op), l[j]? = some o → ∃ g p sa sc, a = some ⟨g, p, none⟩ ∧
  w.cell? ⟨g, p + j * 5, none⟩ = some (.int .i64 o.kind) ∧ w.cell? ⟨g, p + j * 5 + 1, none⟩ = some (.int .i64 o.id) ∧ w.cell? ⟨g, p + j * 5 + 2, none⟩ = some (.int .u64 o.n) ∧
  w.cell? ⟨g, p + j * 5 + 3, none⟩ = some (.string ⟨o.text.toArray⟩) ∧ w.cell? ⟨g, p + j * 5 + 4, none⟩ = some (.slice sa o.sets.length sc) ∧ SetsAt w sa o.sets
theorem opVs_get (ops : List Rem.Op) (svs : List Value) (h : svs.length = ops.length) (j : Nat) (o : Rem.Op) (s : Value) (ho : ops[j]? = some o) (hs : svs[j]? = some s) (i : Nat) (hi : i < 5) :
    (opVs ops svs)[j * 5 + i]? = [.int .i64 o.kind, .int .i64 o.id, .int .u64 o.n, .string ⟨o.text.toArray⟩, s][i]? := by
  induction ops generalizing svs j with
  | nil => simp at ho
  | cons a r ih =>
    cases svs with
    | nil => simp at h
    | cons b t =>
      cases j with
      | zero =>
        simp at ho hs
        subst ho
        subst hs
        simp only [opVs, Nat.zero_mul, Nat.zero_add]
        match i, hi with
        | 0, _ => rfl
        | 1, _ => rfl
        | 2, _ => rfl
        | 3, _ => rfl
        | 4, _ => rfl
      | succ j =>
        have e : (j + 1) * 5 + i = j * 5 + i + 1 + 1 + 1 + 1 + 1 := by omega
        rw [e]
        simp only [opVs, List.getElem?_cons_succ]
        exact ih t (by simpa using h) j (by simpa using ho) (by simpa using hs)
theorem setVs_get (l : List (Int × Int)) (j : Nat) (x : Int × Int) (h : l[j]? = some x) : (setVs l)[j * 2]? = some (.int .i64 x.1) ∧ (setVs l)[j * 2 + 1]? = some (.int .i64 x.2) := by
  induction l generalizing j with
  | nil => simp at h
  | cons a r ih =>
    cases j with
    | zero =>
      simp at h
      subst h
      exact ⟨rfl, rfl⟩
    | succ j =>
      have e : (j + 1) * 2 = j * 2 + 1 + 1 := by omega
      rw [e]
      have := ih j (by simpa using h)
      simpa [setVs] using this
theorem own_at {w : World} {base : Nat} {e : TypeId} {size n : Nat} {v : Value} {xs : List Value} (h : w.ownsRow base e size v n xs) (hn : 0 < n) : ∃ g cap, v = .slice (some ⟨g, 0, none⟩) n cap ∧ ∀ j, j < n * size → w.cell? ⟨g, j, none⟩ = xs[j]? := by
  rcases h.2 with ⟨rfl, h0⟩ | ⟨g, cap, cur, rfl, _⟩
  · omega
  · exact ⟨g, cap, rfl, fun j hj => h.cellAt j hj⟩
theorem OpsAt.slice {w : World} {base : Nat} {v : Value} {ops : List Rem.Op} (h : OpsAt w base v ops) : ∃ a cap, v = .slice a ops.length cap ∧ OpsIn w a ops := by
  obtain ⟨svs, h1, h2, h3⟩ := h
  obtain ⟨a, cap, rfl⟩ := own_slice h2
  refine ⟨a, cap, rfl, fun j o ho => ?_⟩
  have hj : j < ops.length := (List.getElem?_eq_some_iff.1 ho).1
  obtain ⟨g, cap', e, hc⟩ := own_at h2 (by omega)
  cases e
  obtain ⟨s, hs⟩ : ∃ s, svs[j]? = some s := ⟨svs[j]'(by omega), List.getElem?_eq_getElem _⟩
  have h4 := h3 j o s ho hs
  obtain ⟨sa, sc, rfl⟩ := own_slice h4
  have c : ∀ i, i < 5 → w.cell? ⟨g, 0 + j * 5 + i, none⟩ = [Value.int .i64 o.kind, .int .i64 o.id, .int .u64 o.n, .string ⟨o.text.toArray⟩, .slice sa o.sets.length sc][i]? := fun i hi => by
    rw [hc _ (by omega), Nat.zero_add]
    exact opVs_get ops svs h1 j o _ ho hs i hi
  refine ⟨g, 0, sa, sc, rfl, c 0 (by omega), c 1 (by omega), c 2 (by omega), c 3 (by omega), c 4 (by omega), fun k x hx => ?_⟩
  have hk : k < o.sets.length := (List.getElem?_eq_some_iff.1 hx).1
  obtain ⟨g2, cap2, e2, hc2⟩ := own_at h4 (by omega)
  cases e2
  obtain ⟨i1, i2⟩ := setVs_get o.sets k x hx
  exact ⟨g2, 0, rfl, by rw [hc2 _ (by omega), Nat.zero_add]; exact i1, by rw [hc2 _ (by omega), Nat.zero_add]; exact i2⟩
theorem OpsIn.later {w w' : World} {a : Option Addr} {l : List Rem.Op} (h : OpsIn w a l) (hb : Below w.heap.size w w') : OpsIn w' a l := by
  intro j o ho
  obtain ⟨g, p, sa, sc, rfl, h0, h1, h2, h3, h4, h5⟩ := h j o ho
  exact ⟨g, p, sa, sc, rfl, cell_later' hb h0, cell_later' hb h1, cell_later' hb h2, cell_later' hb h3, cell_later' hb h4, h5.later hb⟩
theorem BuilderAt.later {T e : TypeId} {B b : Nat} {p : Value} {bs : List Value} {w w' : World} (h : Lib.BuilderAt T e B b p bs w) (hb : Below w.heap.size w w') : Lib.BuilderAt T e B b p bs w' := by
  have hlt := h.lt
  obtain ⟨hB, v, hbk, hown, hne⟩ := h
  exact ⟨hB, v, by rw [hb.block b hlt]; exact hbk, pw_kept hown hb, hne⟩
theorem IsBuilder.later {T e : TypeId} {B b : Nat} {bs : List Value} {w w' : World} (h : Lib.IsBuilder T e B b bs w) (hb : Below w.heap.size w w') : Lib.IsBuilder T e B b bs w' :=
  h.elim (fun h => .inl (BuilderAt.later h hb)) fun h => .inr (BuilderAt.later h hb)
theorem fits_len {o : Rem.Op} (h : opFits o) : (Rem.writeText o).length ≤ 200000 := by
  obtain ⟨h1, h2, h3, h4, h5, h6⟩ := h
  have hargs : (Rem.argsOf o).length ≤ 1001 ∧ ∀ x ∈ Rem.argsOf o, x.length ≤ 40 := by
    unfold Rem.argsOf
    split
    · refine ⟨by simp, fun x hx => ?_⟩
      simp at hx
      subst hx
      have hc : Lib.countByte o.text 10 ≤ o.text.length := List.count_le_length
      have := Lib.itoa_length_le ((Lib.countByte o.text 10 : Nat) : Int) (by omega) (by omega)
      omega
    · split
      · refine ⟨by simp, fun x hx => ?_⟩
        simp at hx
        subst hx
        have := dec_len21 o.n h3
        omega
      · split
        · exact ⟨by simp, fun x hx => by simp at hx⟩
        · refine ⟨by simp; omega, fun x hx => ?_⟩
          rcases List.mem_cons.1 hx with rfl | hx
          · have := Lib.itoa_length_le o.id h2.1 h2.2
            omega
          · obtain ⟨y, hy, rfl⟩ := List.mem_map.1 hx
            have := Rem.set_len (h6 y hy).2.1 (h6 y hy).2.2
            omega
  have hj := join_le (Rem.wordOf o.kind :: Rem.argsOf o) 40 (fun x hx => by
    rcases List.mem_cons.1 hx with rfl | hx
    · have := Rem.word_len o.kind
      omega
    · exact hargs.2 x hx)
  have ht : (Rem.tailOf o).length ≤ 100000 := by
    unfold Rem.tailOf
    split
    · exact h4
    · simp
  unfold Rem.writeText
  simp only [List.length_append, List.length_cons, List.length_nil] at hj ⊢
  have := hargs.1
  have : (40 + 1) * ((Rem.argsOf o).length + 1) ≤ 41 * 1002 := Nat.mul_le_mul (Nat.le_refl _) (by omega)
  omega
theorem writeAll_snoc (l : List Rem.Op) (o : Rem.Op) : Rem.writeAll (l ++ [o]) = Rem.writeAll l ++ Rem.writeText o := by
  induction l with
  | nil => simp [Rem.writeAll]
  | cons a r ih => simp only [List.cons_append, Rem.writeAll, ih, List.append_assoc]
theorem writeAll_len (l : List Rem.Op) (h : ∀ o ∈ l, opFits o) : (Rem.writeAll l).length ≤ 200000 * l.length := by
  induction l with
  | nil => simp [Rem.writeAll]
  | cons a r ih =>
    have h1 := ih fun o ho => h o (List.mem_cons_of_mem _ ho)
    have h2 := fits_len (h a (by simp))
    simp only [Rem.writeAll, List.length_append, List.length_cons]
    omega
def PrintPost (l : List Rem.Op) (w : World) (e : Ending) (w' : World) : Prop :=
  (((∀ o ∈ l, Rem.opOk o) ∧ e = .returned (.tuple #[.string ⟨(Rem.writeAll l).toArray⟩, .bool true])) ∨ ((∃ o ∈ l, ¬ Rem.opOk o) ∧ e = .returned (.tuple #[.string ⟨#[]⟩, .bool false]))) ∧ Below w.heap.size w w'
set_option maxRecDepth 1000000 in
set_option maxHeartbeats 4000000 in
theorem print_any (w : World) (l : List Rem.Op) (a : Option Addr) (cap : Nat) (hG : Kept (Glob w)) (hO : Kept (OpsIn w a l)) (hf : Kept (∀ o ∈ l, opFits o)) (hl : l.length ≤ 100000) :
    Calls Tryz.prog 16 #[.slice a l.length cap] w (PrintPost l w) := by
  go_enter Tryz.func16, Tryz.ntmps16
  go_wp2_with fail
  go_loopw [13] (fun i wx => ∃ (k : Nat), k ≤ l.length ∧ i = .int .i64 k ∧ Kept (∀ o ∈ l.take k, Rem.opOk o) ∧ Kept (Below w.heap.size w wx) ∧ Kept (Lib.IsBuilder 69 5 w.heap.size w.heap.size (Lib.byteCells (Rem.writeAll (l.take k))) wx)) (fun i _ => l.length - (intOf i).toNat)
  case atStart => exact ⟨0, by omega, rfl, ⟨fun o ho => by simp at ho⟩, ⟨(Below.refl _ _).alloc (Nat.le_refl _) _⟩, ⟨by simpa [Rem.writeAll, Lib.byteCells] using Lib.fresh_isBuilder 69 5 w⟩⟩
  case round =>
    obtain ⟨k, hk, rfl, Hk, HB, HU⟩ := hrel
    by_cases hlt : k < l.length
    · obtain ⟨o, ho⟩ : ∃ o, l[k]? = some o := ⟨l[k], List.getElem?_eq_getElem _⟩
      obtain ⟨g, p, sa, sc, rfl, c0, c1, c2, c3, c4, hsa⟩ := (hO.out.later HB.out) k o ho
      have HS := Kept.mk hsa
      have Ho := Kept.mk ho
      have Hfo : Kept (opFits o) := ⟨hf.out o (List.mem_of_getElem? ho)⟩
      have hws := HB.out.size
      clear ho hsa
      go_wp2_with fail
      refine (write_any _ o Hfo sa sc ⟨hG.out.later (bl_a HB.out)⟩ ⟨HS.out.later (bl_a (Below.refl _ _))⟩).mono ?_
      rintro e w1 ⟨rfl, hb1⟩
      have B1 : Kept (Below wr.heap.size wr w1) := ⟨bl_c hb1 (bl_a (Below.refl _ _))⟩
      have d0 : w1.cell? ⟨wr.heap.size, 0, none⟩ = some (.int .i64 o.kind) := cell_later' hb1 (by simp)
      have d1 : w1.cell? ⟨wr.heap.size, 1, none⟩ = some (.int .i64 o.id) := cell_later' hb1 (by simp)
      have d2 : w1.cell? ⟨wr.heap.size, 2, none⟩ = some (.int .u64 o.n) := cell_later' hb1 (by simp)
      have d3 : w1.cell? ⟨wr.heap.size, 3, none⟩ = some (.string ⟨o.text.toArray⟩) := cell_later' hb1 (by simp)
      have d4 : w1.cell? ⟨wr.heap.size, 4, none⟩ = some (.slice sa o.sets.length sc) := cell_later' hb1 (by simp)
      clear c0 c1 c2 c3 c4 hb1
      go_wp2_with fail
      refine (parse_any (Rem.writeText o) _ ⟨hG.out.later (bl_c B1.out HB.out)⟩ (by have := fits_len Hfo.out; omega)).mono ?_
      rintro e w2 ⟨hp, hb2⟩
      have B2 : Kept (Below wr.heap.size wr w2) := ⟨bl_c hb2 B1.out⟩
      have e0 := cell_later' hb2 d0
      have e1 := cell_later' hb2 d1
      have e2 := cell_later' hb2 d2
      have e3 := cell_later' hb2 d3
      have e4 := cell_later' hb2 d4
      clear d0 d1 d2 d3 d4
      by_cases ok : Rem.opOk o
      · rw [Rem.parse_one.2 ok] at hp
        obtain ⟨v, rfl, hv⟩ := hp
        obtain ⟨a2, cap2, rfl, hin⟩ := hv.slice
        obtain ⟨g2, p2, sa2, sc2, rfl, f0, f1, f2, f3, f4, hsa2⟩ := hin 0 o rfl
        have HS2 := Kept.mk hsa2
        simp only [Nat.zero_mul, Nat.add_zero] at f0 f1 f2 f3 f4
        clear hin hv hsa2
        go_upto_region 7 with fail
        go_still_tail 12, (by kernel_rfl)
        change wpList _ _ _ _ _ w2.drew
        go_wp2_with fail
        refine (same_any _ o o sa2 sa sc2 sc ⟨HS2.out.later (bl_d (Below.refl _ _))⟩ ⟨HS.out.later (bl_d B2.out)⟩ (by have := Hfo.out.2.2.2.2.1; omega)).mono ?_
        rintro e w3 ⟨rfl, hb3⟩
        have B3 : Kept (Below wr.heap.size wr w3) := ⟨bl_c hb3 (bl_d B2.out)⟩
        have td : decide (o = o) = true := by simp
        rw [td]
        clear td e0 e1 e2 e3 e4 f0 f1 f2 f3 f4 hb2 hb3
        go_wp2_with fail
        refine (write_string w.heap.size w.heap.size _ _ _ (IsBuilder.later HU.out B3.out) ?_ (by have := B3.out.size; omega)).mono ?_
        · have := writeAll_len (l.take k) fun o ho => hf.out o (List.mem_of_mem_take ho)
          have := fits_len Hfo.out
          have h2 : (l.take k).length ≤ 100000 := by simp; omega
          rw [Lib.byteCells_length]
          show (Rem.writeAll (l.take k)).length + (Rem.writeText o).toArray.size ≤ _
          rw [List.size_toArray]
          omega
        rintro e w4 ⟨rfl, hu4, hb4⟩
        go_wp2_with fail
        go_roundw
        case measure => simp [intOf]; omega
        case rel =>
          refine ⟨k + 1, by omega, by go_num, ⟨fun x hx => ?_⟩, ⟨?_⟩, ⟨.inr ?_⟩⟩
          · rw [List.take_add_one, Ho.out] at hx
            rcases List.mem_append.1 hx with hx | hx
            · exact Hk.out x hx
            · simp at hx
              exact hx ▸ ok
          · exact HB.out.trans ((B3.out.mono hws).trans hb4)
          · rw [List.take_add_one, Ho.out]
            simp only [Option.toList]
            rw [writeAll_snoc, Lib.byteCells_append]
            exact hu4
      · by_cases hp0 : ∃ k2, Rem.parse (Rem.writeText o) = .inr k2
        · obtain ⟨k2, hp0⟩ := hp0
          rw [hp0] at hp
          subst hp
          clear e0 e1 e2 e3 e4
          go_upto_region 7 with fail
          go_quiet (fail)
          go_wp2_with fail
          go_ret2
          exact ⟨.inr ⟨⟨o, List.mem_of_getElem? Ho.out, ok⟩, rfl⟩, below_drewN (HB.out.trans (B2.out.mono hws)) _⟩
        · obtain ⟨ops, hp1⟩ : ∃ ops, Rem.parse (Rem.writeText o) = .inl ops := by
            cases h : Rem.parse (Rem.writeText o) with
            | inl x => exact ⟨x, rfl⟩
            | inr x => exact absurd ⟨x, h⟩ hp0
          rw [hp1] at hp
          obtain ⟨v, rfl, hv⟩ := hp
          obtain ⟨a2, cap2, rfl, hin⟩ := hv.slice
          clear hp0
          by_cases h1 : ops.length = 1
          · obtain ⟨x, rfl⟩ := List.length_eq_one_iff.1 h1
            have hx : decide (x = o) = false := decide_eq_false fun h => ok (Rem.parse_one.1 (h ▸ hp1))
            obtain ⟨g2, p2, sa2, sc2, rfl, f0, f1, f2, f3, f4, hsa2⟩ := hin 0 x rfl
            have HS2 := Kept.mk hsa2
            simp only [Nat.zero_mul, Nat.add_zero] at f0 f1 f2 f3 f4
            clear hin hv hsa2 h1
            go_upto_region 7 with fail
            go_still_tail 12, (by kernel_rfl)
            change wpList _ _ _ _ _ w2.drew
            go_wp2_with fail
            refine (same_any _ x o sa2 sa sc2 sc ⟨HS2.out.later (bl_d (Below.refl _ _))⟩ ⟨HS.out.later (bl_d B2.out)⟩ (by have := Hfo.out.2.2.2.2.1; omega)).mono ?_
            rintro e w3 ⟨rfl, hb3⟩
            have B3 : Kept (Below wr.heap.size wr w3) := ⟨bl_c hb3 (bl_d B2.out)⟩
            rw [hx]
            go_wp2_with fail
            go_ret2
            exact ⟨.inr ⟨⟨o, List.mem_of_getElem? Ho.out, ok⟩, rfl⟩, HB.out.trans (B3.out.mono hws)⟩
          · have t1 : ((ops.length : Int) != 1) = true := by simpa using fun h => h1 (by omega)
            clear e0 e1 e2 e3 e4 hin hv
            go_upto_region 7 with fail
            go_quiet (fail)
            go_wp2_with fail
            go_ret2
            exact ⟨.inr ⟨⟨o, List.mem_of_getElem? Ho.out, ok⟩, rfl⟩, below_drewN (HB.out.trans (B2.out.mono hws)) _⟩
    · obtain rfl : k = l.length := by omega
      go_wp2_with fail
      refine (Tryz.Builder_String_any w.heap.size w.heap.size (Rem.writeAll l) _ (by have := HU.out; rwa [List.take_length] at this) HB.out.size).mono ?_
      rintro e w3 ⟨rfl, hb3⟩
      go_wp2_with fail
      go_ret2
      exact ⟨.inl ⟨by have := Hk.out; rwa [List.take_length] at this, rfl⟩, HB.out.trans hb3⟩
end Go.Proofs.YtdlieanhdbbhiaaGreatDoor
