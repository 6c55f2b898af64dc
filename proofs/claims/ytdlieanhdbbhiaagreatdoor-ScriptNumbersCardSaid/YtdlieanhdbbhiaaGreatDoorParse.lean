/- Walk: script.Parse, of every text. -/
import Derived.Test.YtdlieanhdbbhiaaGreatDoorLineAll
import Derived.Test.YtdlieanhdbbhiaaGreatDoorCut
import Derived.Test.YtdlieanhdbbhiaaGreatDoorParsePure
set_option linter.unusedVariables false
set_option linter.unusedSimpArgs false
namespace Go.Proofs.YtdlieanhdbbhiaaGreatDoor
open Go.RowKit

def lenOf : Value → Nat
  | .string b => b.size
  | _ => 0
/-- the cells of a row of ops, each op's sets being the value beside it -/
def opVs : List Rem.Op → List Value → List Value
  | o :: os, s :: ss => .int .i64 o.kind :: .int .i64 o.id :: .int .u64 o.n :: .string ⟨o.text.toArray⟩ :: s :: opVs os ss
  | _, _ => []
theorem opVs_append (ops : List Rem.Op) (svs : List Value) (h : svs.length = ops.length) (o : Rem.Op) (s : Value) :
    opVs (ops ++ [o]) (svs ++ [s]) = opVs ops svs ++ [.int .i64 o.kind, .int .i64 o.id, .int .u64 o.n, .string ⟨o.text.toArray⟩, s] := by
  induction ops generalizing svs with
  | nil =>
    have : svs = [] := List.eq_nil_of_length_eq_zero h
    subst this
    rfl
  | cons a l ih =>
    cases svs with
    | nil => simp at h
    | cons b r =>
      have h2 : r.length = l.length := by simpa using h
      simp [opVs, ih r h2]
/-- a row of ops that the call owns -/
def OpsAt (w : World) (base : Nat) (v : Value) (ops : List Rem.Op) : Prop :=
  ∃ svs, svs.length = ops.length ∧ w.ownsRow base 40 5 v ops.length (opVs ops svs) ∧
    ∀ (j : Nat) (o : Rem.Op) (s : Value), ops[j]? = some o → svs[j]? = some s → w.ownsRow base 43 2 s o.sets.length (setVs o.sets)
theorem OpsAt.nil (w : World) (base : Nat) : OpsAt w base (.slice none 0 0) [] :=
  ⟨[], rfl, World.ownsRow_nil _ _ _ _, fun j o s h => by simp at h⟩

theorem own_block_ne {w : World} {b1 b2 e1 e2 z1 z2 n1 n2 : Nat} {v1 v2 : Value} {x1 x2 : List Value} (h1 : w.ownsRow b1 e1 z1 v1 n1 x1) (h2 : w.ownsRow b2 e2 z2 v2 n2 x2) (hne : e2 ≠ e1) : v2.ownBlock = none ∨ v2.ownBlock ≠ v1.ownBlock := by
  rcases h2.2 with ⟨rfl, _⟩ | ⟨g, cap, cur, rfl, _, hg, _⟩
  · exact .inl rfl
  · refine .inr fun e => ?_
    rcases h1.2 with ⟨rfl, _⟩ | ⟨g1, cap1, cur1, rfl, _, hg1, _⟩
    · simp [Value.ownBlock] at e
    · simp [Value.ownBlock] at e
      subst e
      rw [hg] at hg1
      simp at hg1
      exact hne hg1.2

theorem OpsAt.kept {w w' : World} {base : Nat} {v : Value} {ops : List Rem.Op} (h : OpsAt w base v ops) (hb : Below w.heap.size w w') : OpsAt w' base v ops := by
  obtain ⟨svs, h1, h2, h3⟩ := h
  exact ⟨svs, h1, pw_kept h2 hb, fun j o s ho hs => pw_kept (h3 j o s ho hs) hb⟩
theorem OpsAt.append {w w' : World} {base : Nat} {v v' : Value} {ops : List Rem.Op} {svs : List Value} {o : Rem.Op} {s : Value}
    (h1 : svs.length = ops.length) (h2 : w.ownsRow base 40 5 v ops.length (opVs ops svs))
    (h3 : ∀ (j : Nat) (o : Rem.Op) (s : Value), ops[j]? = some o → svs[j]? = some s → w.ownsRow base 43 2 s o.sets.length (setVs o.sets))
    (hs : w.ownsRow base 43 2 s o.sets.length (setVs o.sets))
    (hv : w'.ownsRow base 40 5 v' (ops.length + 1) (opVs ops svs ++ [.int .i64 o.kind, .int .i64 o.id, .int .u64 o.n, .string ⟨o.text.toArray⟩, s])) (hg : w.grownBy w' v.ownBlock) :
    OpsAt w' base v' (ops ++ [o]) := by
  refine ⟨svs ++ [s], by simp [h1], by rw [opVs_append _ _ h1]; simpa using hv, fun j o2 s2 ho2 hs2 => ?_⟩
  by_cases hj : j < ops.length
  · rw [List.getElem?_append_left hj] at ho2
    rw [List.getElem?_append_left (by omega)] at hs2
    exact (h3 j o2 s2 ho2 hs2).kept hg (own_block_ne h2 (h3 j o2 s2 ho2 hs2) (by decide))
  · have hj0 : j = ops.length := by
      have := (List.getElem?_eq_some_iff.1 ho2).1
      simp at this; omega
    subst hj0
    simp at ho2
    rw [← h1] at hs2
    simp at hs2
    subst ho2; subst hs2
    exact hs.kept hg (own_block_ne h2 hs (by decide))

theorem info_op : (Tryz.prog.info? 40).map (fun i => (i.zero, i.size, i.bytes)) = some (some (.agg #[.int .i64 0, .int .i64 0, .int .u64 0, .string ⟨#[]⟩, .slice none 0 0]), 5, 64) := by kernel_rfl

theorem cell_five_at (W : World) (n : Nat) (hn : n = W.heap.size) (a b c d e : Value) (t : TypeId) : ∀ j u, [a, b, c, d, e][j]? = some u → (W.alloc (.cells #[a, b, c, d, e] t)).cell? ((⟨n, 0, none⟩ : Addr).add j) = some u := by
  subst hn
  intro j u hj
  match j, hj with
  | 0, hj => simp at hj; subst hj; simp [Addr.add]
  | 1, hj => simp at hj; subst hj; simp [Addr.add]
  | 2, hj => simp at hj; subst hj; simp [Addr.add]
  | 3, hj => simp at hj; subst hj; simp [Addr.add]
  | 4, hj => simp at hj; subst hj; simp [Addr.add]
  | j + 5, hj => simp at hj

def ParsePost (s : Rem.Str) (w : World) (e : Ending) (w' : World) : Prop :=
  (match Rem.parse s with
   | .inl ops => ∃ v, e = .returned (.tuple #[v, .int .i64 0, .int .i64 0]) ∧ OpsAt w' w.heap.size v ops
   | .inr k => e = .returned (.tuple #[.slice none 0 0, .int .i64 k, .int .i64 2])) ∧ Below w.heap.size w w'
theorem ParsePost.no {s : Rem.Str} {w w' : World} {k : Nat} (h : Rem.parse s = .inr k) (hb : Below w.heap.size w w') : ParsePost s w (.returned (.tuple #[.slice none 0 0, .int .i64 k, .int .i64 2])) w' := by
  unfold ParsePost; rw [h]; exact ⟨rfl, hb⟩
theorem ParsePost.yes {s : Rem.Str} {w w' : World} {v : Value} {ops : List Rem.Op} (h : Rem.parse s = .inl ops) (hv : OpsAt w' w.heap.size v ops) (hb : Below w.heap.size w w') : ParsePost s w (.returned (.tuple #[v, .int .i64 0, .int .i64 0])) w' := by
  unfold ParsePost; rw [h]; exact ⟨⟨v, rfl, hv⟩, hb⟩

set_option maxRecDepth 1000000 in
set_option maxHeartbeats 4000000 in
theorem parse_any (s0 : Rem.Str) (w : World) (hG : Kept (Glob w)) (hs0 : s0.length ≤ 900000) :
    Calls Tryz.prog 10 #[.string ⟨s0.toArray⟩] w (ParsePost s0 w) := by
  obtain ⟨i0, hi, hz0, hz1, hz2⟩ := info_parts info_op
  go_enter Tryz.func10, Tryz.ntmps10
  go_wp2_with fail
  go_loopw [0, 5, 6] (fun s v i wr => ∃ (t : Rem.Str) (k : Nat) (acc : List Rem.Op), s = .string ⟨t.toArray⟩ ∧ i = .int .i64 k ∧ OpsAt wr w.heap.size v acc ∧ Below w.heap.size w wr ∧ Kept (Rem.parse s0 = Rem.glue acc (Rem.rest k t)) ∧ k + t.length ≤ s0.length + 1 ∧ acc.length + t.length ≤ s0.length) (fun s _ _ _ => lenOf s)
  case atStart => exact ⟨s0, 1, [], rfl, rfl, OpsAt.nil _ _, Below.refl _ _, ⟨Rem.parse_rest s0⟩, by omega, by simp⟩
  case round =>
    obtain ⟨t, k, acc, rfl, rfl, hops, hbw, Hacc, hkl, hal⟩ := hrel
    have Hops := Kept.mk hops
    have hws := hbw.size
    have hGr := Kept.mk (hG.out.later hbw)
    clear hops
    rcases t with _ | ⟨c, t'⟩
    · have Hend : Kept (Rem.parse s0 = .inl acc) := ⟨by rw [Hacc.out, Rem.rest_nil]⟩
      clear Hacc
      go_wp2_with fail
      refine bodyPost_ret (v := .tuple #[u5, .int .i64 0, .int .i64 0]) (by simp [results, Tryz.results10, go_sem]) rfl ?_
      exact ParsePost.yes Hend.out Hops.out hbw
    · generalize ht : c :: t' = t at *
      have hne : t ≠ [] := by rw [← ht]; simp
      have hemp : t.isEmpty = false := by rw [← ht]; rfl
      clear ht
      cases hc : Rem.cut10 t with
      | none =>
        have Hno : Kept (Rem.parse s0 = .inr k) := ⟨by rw [Hacc.out, Rem.rest_bad hne (Rem.one_none_cut hc)]⟩
        clear Hacc
        go_wp2_with fail
        refine (cut_no 10 t (by rw [Rem.cutAt_10]; exact hc) wr hGr.out (by omega)).mono ?_
        rintro e w2 ⟨rfl, n2, rfl⟩
        have hb2 := below_drewN hbw n2
        clear hc hbw
        go_wp2_with fail
        refine (line_any t _ (hGr.out.later (below_drewN (Below.refl _ _) n2)) (by omega)).mono ?_
        intro e w3 hp
        unfold LinePost at hp
        obtain ⟨hp, hb3⟩ := hp
        have hB3 := below_next hb2 hb2.size hb3
        cases hl : Rem.line t with
        | none =>
          rw [hl] at hp
          obtain ⟨k1, i1, n1, rfl⟩ := hp
          clear hl
          go_wp2_with fail
          refine bodyPost_ret (v := .tuple #[.slice none 0 0, .int .i64 k, .int .i64 2]) (by simp [results, Tryz.results10, go_sem]) rfl ?_
          exact ParsePost.no Hno.out (hB3.alloc hB3.size _)
        | some o =>
          rw [hl] at hp
          obtain ⟨v, rfl, hown⟩ := hp
          obtain ⟨a4, cap4, hv⟩ := own_slice hown
          rw [hv]
          clear hl hown hv
          go_wp2_with fail
          refine bodyPost_ret (v := .tuple #[.slice none 0 0, .int .i64 k, .int .i64 2]) (by simp [results, Tryz.results10, go_sem]) rfl ?_
          exact ParsePost.no Hno.out (hB3.alloc hB3.size _)
      | some p =>
        obtain ⟨x, y⟩ := p
        have hcl := Rem.cut10_len hc
        cases hl : Rem.line x with
        | none =>
          have Hno : Kept (Rem.parse s0 = .inr k) := ⟨by rw [Hacc.out, Rem.rest_bad hne (Rem.one_none_line hc hl)]⟩
          have Hl := Kept.mk hl
          clear Hacc
          go_wp2_with fail
          refine (cut_yes 10 t x y (by rw [Rem.cutAt_10]; exact hc) wr hGr.out (by omega)).mono ?_
          rintro e w2 ⟨rfl, n2, rfl⟩
          have hb2 := below_drewN hbw n2
          clear hc hbw hl
          go_wp2_with fail
          refine (line_any x _ (hGr.out.later (below_drewN (Below.refl _ _) n2)) (by omega)).mono ?_
          intro e w3 hp
          unfold LinePost at hp
          obtain ⟨hp, hb3⟩ := hp
          have hB3 := below_next hb2 hb2.size hb3
          rw [Hl.out] at hp
          obtain ⟨k1, i1, n1, rfl⟩ := hp
          go_wp2_with fail
          refine bodyPost_ret (v := .tuple #[.slice none 0 0, .int .i64 k, .int .i64 2]) (by simp [results, Tryz.results10, go_sem]) rfl ?_
          exact ParsePost.no Hno.out (hB3.alloc hB3.size _)
        | some o =>
          have hfacts := Rem.line_facts hl
          obtain ⟨fk0, fk7, fi0, fi9, fn, fdep, ftext⟩ := hfacts
          have Hl := Kept.mk hl
          have Hc := Kept.mk hc
          go_wp2_with fail
          refine (cut_yes 10 t x y (by rw [Rem.cutAt_10]; exact hc) wr hGr.out (by omega)).mono ?_
          rintro e w2 ⟨rfl, n2, rfl⟩
          have hb2 := below_drewN hbw n2
          clear hc hbw hl
          go_wp2_with fail
          refine (line_any x _ (hGr.out.later (below_drewN (Below.refl _ _) n2)) (by omega)).mono ?_
          intro e w3 hp
          unfold LinePost at hp
          obtain ⟨hp, hb3⟩ := hp
          have hB3 := below_next hb2 hb2.size hb3
          rw [Hl.out] at hp
          obtain ⟨v, rfl, hown⟩ := hp
          obtain ⟨a4, cap4, hv⟩ := own_slice hown
          rw [hv] at hown ⊢
          have Hown := Kept.mk (hown.mono hb2.size)
          clear hown hv
          rw [ftext]
          have hbr3 : Below wr.heap.size wr w3 := below_next (below_drewN (Below.refl _ _) n2) (by simp) hb3
          obtain ⟨svs, s1, s2, s3⟩ := Hops.out.kept hbr3
          have S3 := Kept.mk s3
          have hs3 := hB3.size
          have hv5 : Kept (u5.ownBlock = u5.ownBlock) := ⟨rfl⟩
          clear s3
          by_cases hk1 : o.kind = 1
          · have hkb : (o.kind == 1) = true := by simp [hk1]
            obtain ⟨fd6, fdi, fds⟩ := fdep hk1
            cases hx : Rem.lines o.n y with
            | none =>
              have Hno : Kept (Rem.parse s0 = .inr k) := ⟨by rw [Hacc.out, Rem.rest_bad hne (Rem.one_deploy_none Hc.out Hl.out hk1 hx)]⟩
              have Hx := Kept.mk hx
              clear Hacc hx
              go_wp2_with fail
              refine (cut_any o.n y _ fd6 (by omega)).mono ?_
              rintro e w4 ⟨rfl, hb4⟩
              rw [Hx.out]
              obtain ⟨hc4, hf4⟩ := bcell hb4
              go_wp2_with fail
              refine bodyPost_ret (v := .tuple #[.slice none 0 0, .int .i64 k, .int .i64 2]) (by simp [results, Tryz.results10, go_sem]) rfl ?_
              exact ParsePost.no Hno.out ((below_next (hB3.alloc hB3.size _) (by simp; omega) hb4).setCell (p := ⟨w3.heap.size, 3, none⟩) hs3 _)
            | some q =>
              obtain ⟨x2, y2⟩ := q
              have hone := Rem.one_deploy Hc.out Hl.out hk1 hx
              have hol := Rem.one_len hone
              have holt := Rem.one_lt hone
              have Hst : Kept (Rem.parse s0 = Rem.glue (acc ++ [{ o with text := x2, n := 0 }]) (Rem.rest (k + (o.n + 1)) y2)) := ⟨by rw [Hacc.out, Rem.rest_step hone]⟩
              have Hx := Kept.mk hx
              clear Hacc hx hone
              go_wp2_with fail
              refine (cut_any o.n y _ fd6 (by omega)).mono ?_
              rintro e w4 ⟨rfl, hb4⟩
              rw [Hx.out]
              obtain ⟨hc4, hf4⟩ := bcell hb4
              have hbW : Below w3.heap.size w3 (w4.setCell ⟨w3.heap.size, 3, none⟩ (.string ⟨x2.toArray⟩)) := (below_next ((Below.refl _ w3).alloc (Nat.le_refl _) _) (by simp) hb4).setCell (p := ⟨w3.heap.size, 3, none⟩) (Nat.le_refl _) _
              have hrow := pw_kept s2 hbW
              have hsW := hbW.size
              have hs4 : w3.heap.size ≤ w4.heap.size := by have := hb4.size; simp at this; omega
              go_wp2_with (first
                | (at_builtin; refine wpList_append_own _ rfl _ _ 35 rfl (w.heap.size) 40 i0 (.agg #[.int .i64 0, .int .i64 0, .int .u64 0, .string ⟨#[]⟩, .slice none 0 0]) 5 64 Tryz.underlying35 hi hz0 hz1 hz2 rfl (by decide) _ _ _ rfl (hrow.alloc _) ⟨w4.heap.size, 0, none⟩ 1 1 [.int .i64 1, .int .i64 0, .int .u64 0, .string ⟨x2.toArray⟩, .slice a4 0 cap4] rfl rfl (cell_five_at _ _ (by simp) _ _ _ _ _ _) (fun x hx => by simp at hx; rcases hx with rfl | rfl | rfl | rfl | rfl <;> rfl) (by unfold maxLen; omega) (by omega) (by simp; omega) ?_; intro v' w5 hown' hgrow5 hnil5))
              have hops5 : OpsAt w5 w.heap.size v' (acc ++ [{ o with text := x2, n := 0 }]) := OpsAt.append (o := { o with text := x2, n := 0 }) s1 (hrow.alloc _) (fun j o s ho hs => (pw_kept (S3.out j o s ho hs) hbW).alloc _) ((pw_kept Hown.out hbW).alloc _) (by simp only [hk1, fdi, fds]; exact hown') hgrow5
              have hb5 : Below w.heap.size w w5 := Below.grown ((hB3.trans (hbW.mono hs3)).alloc (by omega) _) hgrow5 (by simp; omega) (fun j hj => (s2.lt _ hj).1)
              have X : Kept (OpsAt w5 w.heap.size v' (acc ++ [{ o with text := x2, n := 0 }]) ∧ Below w.heap.size w w5) := ⟨hops5, hb5⟩
              clear hown' hgrow5 hnil5 hops5 hb5
              go_wp2_with fail
              go_roundw
              case rel => exact ⟨y2, k + (o.n + 1), acc ++ [{ o with text := x2, n := 0 }], rfl, by go_num, X.out.1, X.out.2, Hst, by omega, by simp; omega⟩
              case measure => simp [lenOf, ByteArray.size]; omega
          · have hkb : (o.kind == 1) = false := by simp [hk1]
            have hone := Rem.one_plain Hc.out Hl.out hk1
            have holt := Rem.one_lt hone
            have hol := Rem.one_len hone
            have Hst : Kept (Rem.parse s0 = Rem.glue (acc ++ [o]) (Rem.rest (k + 1) y)) := ⟨by rw [Hacc.out, Rem.rest_step hone]⟩
            clear Hacc hone
            go_wp2_with (first
              | (at_builtin; refine wpList_append_own _ rfl _ _ 35 rfl (w.heap.size) 40 i0 (.agg #[.int .i64 0, .int .i64 0, .int .u64 0, .string ⟨#[]⟩, .slice none 0 0]) 5 64 Tryz.underlying35 hi hz0 hz1 hz2 rfl (by decide) _ _ _ rfl ((s2.alloc _).alloc _) ⟨w3.heap.size + 1, 0, none⟩ 1 1 [.int .i64 o.kind, .int .i64 o.id, .int .u64 o.n, .string ⟨#[]⟩, .slice a4 o.sets.length cap4] rfl rfl (cell_five_at _ _ (by simp) _ _ _ _ _ _) (fun x hx => by simp at hx; rcases hx with rfl | rfl | rfl | rfl | rfl <;> rfl) (by unfold maxLen; omega) (by omega) (by simp; omega) ?_; intro v' w5 hown' hgrow5 hnil5))
            have hops5 : OpsAt w5 w.heap.size v' (acc ++ [o]) := OpsAt.append (o := o) s1 ((s2.alloc _).alloc _) (fun j o s ho hs => ((S3.out j o s ho hs).alloc _).alloc _) ((Hown.out.alloc _).alloc _) (by rw [ftext]; exact hown') hgrow5
            have hb5 : Below w.heap.size w w5 := Below.grown ((hB3.alloc hB3.size _).alloc (by simp; omega) _) hgrow5 (by simp; omega) (fun j hj => (s2.lt _ hj).1)
            have X : Kept (OpsAt w5 w.heap.size v' (acc ++ [o]) ∧ Below w.heap.size w w5) := ⟨hops5, hb5⟩
            clear hown' hgrow5 hnil5 hops5 hb5
            go_wp2_with fail
            go_roundw
            case rel => exact ⟨y, k + 1, acc ++ [o], rfl, by go_num, X.out.1, X.out.2, Hst, by omega, by simp; omega⟩
            case measure => simp [lenOf, ByteArray.size]; omega
end Go.Proofs.YtdlieanhdbbhiaaGreatDoor
