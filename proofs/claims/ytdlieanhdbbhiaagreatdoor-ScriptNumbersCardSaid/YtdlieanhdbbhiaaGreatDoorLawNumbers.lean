/- Walk: the law ScriptNumbers. -/
import Derived.Test.YtdlieanhdbbhiaaGreatDoorWakes
import Derived.Test.YtdlieanhdbbhiaaGreatDoorDigits
import Derived.Test.YtdlieanhdbbhiaaGreatDoorTellPure
set_option linter.unusedVariables false
set_option linter.unusedSimpArgs false
namespace Go.Proofs.YtdlieanhdbbhiaaGreatDoor
open Go.RowKit

theorem neq_set' (a b c d : Int) (w : World) : (binOp .neq 43 (.agg #[.int .i64 a, .int .i64 b]) (.agg #[.int .i64 c, .int .i64 d])).run Tryz.prog w = .ok (.bool (!(setEq a b c d))) w := neq_set a b c d w
attribute [local go_sem high] neq_set'
set_option maxRecDepth 1000000 in
set_option maxHeartbeats 4000000 in
theorem numbers_any (w : World) (hG : Kept (Glob w)) (n : Nat) (hn : n < 18446744073709551616) (v : Int) (hv0 : -9223372036854775808 ≤ v) (hv1 : v ≤ 9223372036854775807) (c : Nat) (hc : c < 256) :
    Calls Tryz.prog 4 #[.int .u64 n, .int .i64 v, .int .u8 c] w fun e w' => e = .returned (.bool true) ∧ Below w.heap.size w w' := by
  have hdl := dec_len21 n hn
  have HC := Kept.mk hc
  have HV := Kept.mk (And.intro hv0 hv1)
  clear hc hv0 hv1
  go_enter Tryz.func4, Tryz.ntmps4
  go_wp2_with fail
  refine (digits_any n hn _).mono ?_
  rintro e w1 ⟨rfl, hb1⟩
  have B1 : Kept (Below w.heap.size w w1) := ⟨hb1⟩
  clear hb1
  have a1 := add_eq [116, 105, 99, 107, 32] (Lib.decDigits n) (by decide) (by omega)
  have a2 := add_eq ([116, 105, 99, 107, 32] ++ Lib.decDigits n) [10] (by rw [List.length_append]; show 5 + _ ≤ _; omega) (by decide)
  have hl2 : (([116, 105, 99, 107, 32] ++ Lib.decDigits n) ++ [10]).length ≤ 900000 := by simp only [List.length_append, List.length_cons, List.length_nil]; omega
  have hp0 : Kept ((n ≤ 4611686018427387904 ∧ Rem.parse (([116, 105, 99, 107, 32] ++ Lib.decDigits n) ++ [10]) = .inl [⟨3, 0, n, [], []⟩]) ∨ (4611686018427387904 < n ∧ Rem.parse (([116, 105, 99, 107, 32] ++ Lib.decDigits n) ++ [10]) = .inr 1)) := ⟨by
    by_cases hle : n ≤ 4611686018427387904
    · exact .inl ⟨hle, Rem.parse_tick hle⟩
    · exact .inr ⟨by omega, Rem.parse_tick_big (by omega)⟩⟩
  generalize [116, 105, 99, 107, 32] ++ Lib.decDigits n = D1 at a1 a2 hl2 hp0
  generalize D1 ++ [10] = D2 at a2 hl2 hp0
  go_upto_region 2 with fail
  go_cut [8, 9, 10] (fun v8 v9 v10 wx => Kept (Below w.heap.size w wx) ∧ ((n ≤ 4611686018427387904 ∧ ∃ g p cap, v8 = .slice (some ⟨g, p, none⟩) 1 cap ∧ v9 = .int .i64 0 ∧ v10 = .int .i64 0 ∧ Kept (wx.cell? ⟨g, p + 2, none⟩ = some (.int .u64 n))) ∨ (4611686018427387904 < n ∧ v8 = .slice none 0 0 ∧ v9 = .int .i64 1 ∧ v10 = .int .i64 2)))
  case first =>
    go_wp2_with fail
    refine (parse_any D2 _ ⟨hG.out.later B1.out⟩ hl2).mono ?_
    rintro e w2 ⟨hp, hb2⟩
    have B2 : Kept (Below w.heap.size w w2) := ⟨bl_c hb2 B1.out⟩
    obtain ⟨hle, hq⟩ | ⟨hle, hq⟩ := hp0.out
    · rw [hq] at hp
      obtain ⟨v, rfl, hv⟩ := hp
      obtain ⟨a, cap, rfl, hin⟩ := hv.slice
      obtain ⟨g, p, sa, sc, rfl, _, _, c2, _, _, _⟩ := hin 0 _ rfl
      go_wp2_with fail
      go_meet
      exact ⟨B2, .inl ⟨hle, g, p, cap, rfl, rfl, rfl, ⟨c2⟩⟩⟩
    · rw [hq] at hp
      subst hp
      go_wp2_with fail
      go_meet
      exact ⟨B2, .inr ⟨by omega, rfl, rfl, rfl⟩⟩
  case rest =>
    obtain ⟨B2, hcase⟩ := hcut
    clear a1 a2
    go_upto_region 3 with fail
    go_cut [60] (fun v60 wx => v60 = .bool false ∧ Kept (Below w.heap.size w wx))
    case first =>
      rcases hcase with ⟨hle, g, p, cap, rfl, rfl, rfl, hc2⟩ | ⟨hgt, rfl, rfl, rfl⟩
      · have t1 := hc2.out
        have t2 : decide ((n : Int) ≤ 4611686018427387904) = true := decide_eq_true (by omega)
        clear hle
        go_wp2_with fail
        go_meet
        exact ⟨rfl, B2⟩
      · have t2 : decide ((n : Int) ≤ 4611686018427387904) = false := decide_eq_false (by omega)
        clear hgt
        go_wp2_with fail
        go_meet
        exact ⟨rfl, B2⟩
    case rest =>
      obtain ⟨rfl, B3⟩ := hcut
      clear B2 hcase
      go_upto_region 5 with fail
      obtain ⟨m, hm, hm26⟩ : ∃ m : Nat, (c : Int).tmod 26 = (m : Int) ∧ m < 26 := ⟨c % 26, by rw [Int.tmod_eq_emod_of_nonneg (by omega)]; omega, by omega⟩
      have hz : (97 : Int) + (m : Int) = ((UInt8.ofNat (97 + m)).toNat : Int) := by
        have : (UInt8.ofNat (97 + m)).toNat = 97 + m := by simp; omega
        rw [this]; omega
      have hnm : Rem.nameText (m : Int) = [UInt8.ofNat (97 + m)] := Rem.name_ok (by omega) (by omega)
      have hpc := Rem.parse_complete (x := ((m : Int), v)) ⟨by simp, by show (m : Int) ≤ 25; omega, HV.out.1, HV.out.2⟩
      have hil := Lib.itoa_length_le v HV.out.1 HV.out.2
      simp only [Rem.setText] at hpc
      rw [hnm] at hpc
      generalize UInt8.ofNat (97 + m) = x at hz hpc
      clear hnm
      rw [show ([99, 111, 109, 112, 108, 101, 116, 101, 32, 51, 32] ++ (([x] ++ [61]) ++ Lib.itoa v)) ++ [10] = ((([99, 111, 109, 112, 108, 101, 116, 101, 32, 51, 32] ++ [x]) ++ [61]) ++ Lib.itoa v) ++ [10] by simp] at hpc
      have a1 := add_eq [99, 111, 109, 112, 108, 101, 116, 101, 32, 51, 32] [x] (by decide) (by simp)
      have a2 := add_eq ([99, 111, 109, 112, 108, 101, 116, 101, 32, 51, 32] ++ [x]) [61] (by simp) (by decide)
      have a3 := add_eq (([99, 111, 109, 112, 108, 101, 116, 101, 32, 51, 32] ++ [x]) ++ [61]) (Lib.itoa v) (by simp) (by omega)
      have a4 := add_eq ((([99, 111, 109, 112, 108, 101, 116, 101, 32, 51, 32] ++ [x]) ++ [61]) ++ Lib.itoa v) [10] (by simp; omega) (by decide)
      have hl4 : (((([99, 111, 109, 112, 108, 101, 116, 101, 32, 51, 32] ++ [x]) ++ [61]) ++ Lib.itoa v) ++ [10]).length ≤ 900000 := by simp; omega
      generalize [99, 111, 109, 112, 108, 101, 116, 101, 32, 51, 32] ++ [x] = S1 at a1 a2 a3 a4 hl4 hpc
      generalize S1 ++ [61] = S2 at a2 a3 a4 hl4 hpc
      generalize hTT : Lib.itoa v = TT at a3 a4 hl4 hpc hil
      generalize S2 ++ TT = S3 at a3 a4 hl4 hpc
      generalize S3 ++ [10] = S4 at a4 hl4 hpc
      have TT' := Kept.mk hTT
      have Hpc := Kept.mk hpc
      have e3 : IntKind.u8.wrap (97 + (m : Int)) = 97 + (m : Int) := wrap_u8 _ (by omega) (by omega)
      have hcv := conv_one (x.toNat : Int) x rfl
      obtain ⟨u, hu, hu64⟩ : ∃ u : Nat, IntKind.u64.wrap v = (u : Int) ∧ u < 18446744073709551616 := by
        have := HV.out
        by_cases hneg : v < 0
        · exact ⟨(v + 18446744073709551616).toNat, by simp [IntKind.wrap, IntKind.bits, IntKind.signed]; omega, by omega⟩
        · exact ⟨v.toNat, by simp [IntKind.wrap, IntKind.bits, IntKind.signed]; omega, by omega⟩
      clear hTT hpc
      go_wp2_with fail
      refine (digits_any u hu64 _).mono ?_
      rintro e w5 ⟨rfl, hb5⟩
      have B5 : Kept (Below w.heap.size w w5) := ⟨bl_c hb5 (bl_a B3.out)⟩
      go_upto_if 70 with fail
      go_cut [12] (fun v12 wx => v12 = .string ⟨TT.toArray⟩ ∧ Kept (Below w.heap.size w wx))
      case first =>
        have hv0 := HV.out.1
        have hv1 := HV.out.2
        by_cases hneg : v < 0
        · obtain ⟨k, hk, hk63⟩ : ∃ k : Nat, v = -((k + 1 : Nat) : Int) ∧ k + 1 ≤ 9223372036854775808 := ⟨(-v - 1).toNat, by omega, by omega⟩
          have f1 : IntKind.i64.wrap (v + 1) = -(k : Int) := by simp [IntKind.wrap, IntKind.bits, IntKind.signed]; omega
          have f2 : IntKind.i64.wrap (-(-(k : Int))) = (k : Int) := by simp [IntKind.wrap, IntKind.bits, IntKind.signed]; omega
          have f2' : IntKind.i64.wrap (k : Int) = (k : Int) := by simp [IntKind.wrap, IntKind.bits, IntKind.signed]; omega
          have f3 : IntKind.u64.wrap (k : Int) = (k : Int) := wrap_u64 _ (by omega) (by omega)
          have f4 : IntKind.u64.wrap ((k : Int) + 1) = (k : Int) + 1 := wrap_u64 _ (by omega) (by omega)
          have hlk := dec_len21 (k + 1) (by omega)
          have a9 := add_eq [45] (Lib.decDigits (k + 1)) (by decide) (by omega)
          have ht : TT = [45] ++ Lib.decDigits (k + 1) := by rw [← TT'.out, hk, Lib.itoa_neg _ (by omega)]; rfl
          rw [← ht] at a9
          have hd : decide (v < 0) = true := decide_eq_true hneg
          clear hv0 hv1 hk ht hu
          go_wp2_with fail
          rw [show ((k : Int) + 1) = ((k + 1 : Nat) : Int) by omega]
          refine (digits_any (k + 1) (by omega) _).mono ?_
          rintro e w6 ⟨rfl, hb6⟩
          go_wp2_with fail
          go_meet
          exact ⟨rfl, ⟨bl_c hb6 B5.out⟩⟩
        · have hd : decide (v < 0) = false := decide_eq_false hneg
          have ht : TT = Lib.decDigits u := by
            rw [← TT'.out]
            have : v = (u : Int) := by rw [← hu]; simp [IntKind.wrap, IntKind.bits, IntKind.signed]; omega
            rw [this, Lib.itoa_nonneg]
          go_wp2_with fail
          go_meet
          exact ⟨by rw [ht], B5⟩
      case rest =>
        obtain ⟨rfl, B6⟩ := hcut
        clear hcv e3 B5 hu hb5
        go_wp2_with fail
        refine (parse_any S4 _ ⟨hG.out.later B6.out⟩ hl4).mono ?_
        rintro e w7 ⟨hp, hb7⟩
        rw [Hpc.out] at hp
        obtain ⟨v7, rfl, hv7⟩ := hp
        obtain ⟨a, cap, rfl, hin⟩ := hv7.slice
        obtain ⟨g, p, sa, sc, rfl, c0, c1, _, _, c4, c5⟩ := hin 0 _ rfl
        obtain ⟨gs, ps, rfl, s0, s1⟩ := c5 0 _ rfl
        have B7 : Kept (Below w.heap.size w w7) := ⟨bl_c hb7 B6.out⟩
        have C0 : w7.cell? ⟨g, p, none⟩ = some (.int .i64 5) := c0
        have C1 : w7.cell? ⟨g, p + 1, none⟩ = some (.int .i64 3) := c1
        have C4 : w7.cell? ⟨g, p + 4, none⟩ = some (.slice (some ⟨gs, ps, none⟩) 1 sc) := c4
        have S0 : w7.cell? ⟨gs, ps, none⟩ = some (.int .i64 m) := s0
        have S1 : w7.cell? ⟨gs, ps + 1, none⟩ = some (.int .i64 v) := s1
        clear hv7 hin c0 c1 c4 c5 s0 s1 a1 a2 a3 a4 hb7 B6
        have tq : (!setEq (m : Int) v (m : Int) v) = false := by simp [setEq]
        go_upto_region 12 with fail
        clear C0 C1 C4 S0 S1 tq
        have a1 := add_eq [116, 105, 99, 107, 32, 48] (Lib.decDigits n) (by decide) (by omega)
        have a2 := add_eq [116, 105, 99, 107, 32, 45] (Lib.decDigits n) (by decide) (by omega)
        have a3 := add_eq [116, 105, 99, 107, 32] (Lib.decDigits n) (by decide) (by omega)
        have a4 := add_eq ([116, 105, 99, 107, 32] ++ Lib.decDigits n) [32] (by rw [List.length_append]; show 5 + _ ≤ _; omega) (by decide)
        have hbad := Rem.bad_all n
        have hblen : ∀ t ∈ Rem.badLines (Lib.decDigits n), t.length ≤ 100 := by
          intro t ht
          simp only [Rem.badLines, List.mem_cons, List.not_mem_nil, or_false] at ht
          rcases ht with rfl | rfl | rfl | rfl | rfl | rfl | rfl | rfl | rfl | rfl | rfl | rfl | rfl | rfl | rfl | rfl | rfl | rfl | rfl <;> simp only [List.length_append, List.length_cons, List.length_nil] <;> omega
        obtain ⟨L, hL, hbad, hblen⟩ : ∃ L, L = Rem.badLines (Lib.decDigits n) ∧ (∀ t ∈ L, Rem.parse (t ++ [10]) = .inr 1) ∧ (∀ t ∈ L, t.length ≤ 100) := ⟨_, rfl, hbad, hblen⟩
        unfold Rem.badLines at hL
        generalize [116, 105, 99, 107, 32, 48] ++ Lib.decDigits n = E1 at a1 hL
        generalize [116, 105, 99, 107, 32, 45] ++ Lib.decDigits n = E2 at a2 hL
        generalize [116, 105, 99, 107, 32] ++ Lib.decDigits n = E3 at a3 a4 hL
        generalize E3 ++ [32] = E4 at a4 hL
        have Hbad := Kept.mk hbad
        have Hlen := Kept.mk hblen
        have HL := Kept.mk hL
        have hLl : L.length = 19 := by rw [hL]; rfl
        clear hbad hblen hL
        go_wp2_with fail
        go_loopw [141] (fun i wx => ∃ k : Nat, k ≤ 19 ∧ i = .int .i64 k ∧ Kept (Below w.heap.size w wx) ∧ Kept (∀ j s, L[j]? = some s → wx.cell? ⟨w7.heap.size, j, none⟩ = some (.string ⟨s.toArray⟩))) (fun i _ => 19 - (intOf i).toNat)
        case atStart =>
          refine ⟨0, by omega, rfl, ⟨bl_a B7.out⟩, ⟨fun j s hj => ?_⟩⟩
          have hc : ∀ cs : Array Value, cs = (L.map fun s => Value.string ⟨s.toArray⟩).toArray → (w7.alloc (.cells cs 9)).cell? ⟨w7.heap.size, j, none⟩ = some (.string ⟨s.toArray⟩) := by
            rintro cs rfl
            rw [Lib.cell_of_heap (heap_alloc_new w7 _)]
            simp [hj]
          exact hc _ (by rw [HL.out]; rfl)
        case round =>
          obtain ⟨k, hk, rfl, HB, HR⟩ := hrel
          by_cases hlt : k < 19
          · obtain ⟨t, ht⟩ : ∃ t, L[k]? = some t := ⟨L[k]'(by omega), List.getElem?_eq_getElem _⟩
            have ck := HR.out k t ht
            have htl := Hlen.out t (List.mem_of_getElem? ht)
            have hpt := Hbad.out t (List.mem_of_getElem? ht)
            have a5 := add_eq t [10] (by omega) (by decide)
            have hl5 : (t ++ [10]).length ≤ 900000 := by rw [List.length_append]; show _ + 1 ≤ _; omega
            generalize t ++ [10] = T5 at a5 hl5 hpt
            have Hpt := Kept.mk hpt
            clear hpt ht htl
            go_wp2_with fail
            refine (parse_any T5 _ ⟨hG.out.later HB.out⟩ hl5).mono ?_
            rintro e w8 ⟨hp, hb8⟩
            rw [Hpt.out] at hp
            subst hp
            go_wp2_with fail
            go_roundw
            case measure => simp [intOf]; omega
            case rel => exact ⟨k + 1, by omega, by go_num, ⟨bl_c hb8 HB.out⟩, ⟨fun j s hj => cell_later' hb8 (HR.out j s hj)⟩⟩
          · obtain rfl : k = 19 := by omega
            go_wp2_with fail
            refine (wakes_any _ ⟨hG.out.later HB.out⟩).mono ?_
            rintro e w8 ⟨rfl, hb8⟩
            go_wp2_with fail
            go_ret
            exact ⟨rfl, bl_c hb8 HB.out⟩
end Go.Proofs.YtdlieanhdbbhiaaGreatDoor
