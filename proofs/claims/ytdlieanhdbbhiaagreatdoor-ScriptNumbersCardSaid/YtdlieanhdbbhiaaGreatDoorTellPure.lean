/- What script.Tell answers, as plain lists of bytes; script.row at one, three, five numbers. -/
import Derived.Test.YtdlieanhdbbhiaaGreatDoorRow
import Derived.Test.YtdlieanhdbbhiaaGreatDoorUint
import Derived.Test.YtdlieanhdbbhiaaGreatDoorSeen
import Derived.Lib.ItoaMem
set_option linter.unusedVariables false
set_option linter.unusedSimpArgs false
namespace Go.Proofs.YtdlieanhdbbhiaaGreatDoor
open Go.RowKit

structure Told where
  at_ : Nat
  due : Nat
  of : Int
  kind : Int
  in_ : Int
  node : Int
  token : Int
structure Out where
  code : Int
  id : Int
  num : Int
  job : Int
  of : Int
  node : Int
  try_ : Int
  until_ : Nat
  told : List Told
def Told.ok (t : Told) : Prop := t.at_ < 18446744073709551616 ∧ t.due < 18446744073709551616 ∧ IntOk t.of ∧ IntOk t.kind ∧ IntOk t.in_ ∧ IntOk t.node ∧ IntOk t.token
def Out.ok (o : Out) : Prop := IntOk o.code ∧ IntOk o.id ∧ IntOk o.num ∧ IntOk o.job ∧ IntOk o.of ∧ IntOk o.node ∧ IntOk o.try_ ∧ o.until_ < 18446744073709551616 ∧ ∀ t ∈ o.told, t.ok

def head1 (code : Int) : Rem.Str := if code = 0 then [111, 107] else [101, 114, 114, 111, 114, 32] ++ Lib.itoa code
def head2 (s : Rem.Str) (id : Int) : Rem.Str := if id = 0 then s else s ++ ([32] ++ Lib.itoa id)
def leaseText (num job of node try_ : Int) (until_ : Nat) : Rem.Str := (([32, 108, 101, 97, 115, 101, 32] ++ rowText [num, job, of, node, try_]) ++ [32]) ++ Lib.decDigits until_
def head3 (s : Rem.Str) (num job of node try_ : Int) (until_ : Nat) : Rem.Str := if num = 0 then s else s ++ leaseText num job of node try_ until_
def toldText (t : Told) : Rem.Str :=
  (((((((Lib.decDigits t.at_ ++ [32]) ++ rowText [t.of]) ++ [32]) ++ seenText t.kind) ++ [32]) ++ rowText [t.in_, t.node, t.token]) ++ [32]) ++ Lib.decDigits t.due
def outHead (o : Out) : Rem.Str := head3 (head2 (head1 o.code) o.id) o.num o.job o.of o.node o.try_ o.until_
def outTexts (o : Out) : List Rem.Str := outHead o :: o.told.map toldText

theorem dec_len21 (u : Nat) (h : u < 18446744073709551616) : (Lib.decDigits u).length ≤ 40 := by
  rw [Lib.decDigits]
  split
  · simp
  · have h1 := Lib.itoa_length_le ((u / 10 : Nat) : Int) (by omega) (by omega)
    rw [Lib.itoa_nonneg] at h1
    simp only [List.length_append, List.length_cons, List.length_nil]
    omega
theorem itoa_len (n : Int) (h : IntOk n) : (Lib.itoa n).length ≤ 21 := Lib.itoa_length_le n h.1 h.2
theorem row_len (l : List Int) (h : ∀ x ∈ l, IntOk x) : (rowText l).length ≤ 22 * l.length := by
  have := join_len (l.map Lib.itoa) (fun y hy => by
    obtain ⟨z, hz, rfl⟩ := List.mem_map.1 hy
    exact itoa_len z (h z hz))
  simpa [rowText] using this
theorem row_one (x : Int) : rowText [x] = Lib.itoa x := by simp [rowText, Lib.join_one]

theorem row1 (w : World) (g : Nat) (x : Int) (hx : IntOk x) (h : w.cell? ⟨g, 0, none⟩ = some (.int .i64 x)) (hG : Glob w) :
    Calls Tryz.prog 11 #[.slice (some ⟨g, 0, none⟩) 1 1] w fun e w' => e = .returned (.string ⟨(Lib.itoa x).toArray⟩) ∧ Below w.heap.size w w' := by
  have := row_any w g 0 1 1 [x] ⟨rfl⟩ (by omega) (by omega) ⟨fun j y hy W hW => cell_later' hW (by
    match j, hy with
    | 0, hy => simp at hy; subst hy; exact h
    | j + 1, hy => simp at hy)⟩ ⟨fun y hy => by simp at hy; subst hy; exact hx⟩ ⟨hG⟩
  rw [row_one] at this
  exact this
theorem row3 (w : World) (g : Nat) (x y z : Int) (hx : IntOk x) (hy : IntOk y) (hz : IntOk z) (h0 : w.cell? ⟨g, 0, none⟩ = some (.int .i64 x)) (h1 : w.cell? ⟨g, 1, none⟩ = some (.int .i64 y)) (h2 : w.cell? ⟨g, 2, none⟩ = some (.int .i64 z)) (hG : Glob w) :
    Calls Tryz.prog 11 #[.slice (some ⟨g, 0, none⟩) 3 3] w fun e w' => e = .returned (.string ⟨(rowText [x, y, z]).toArray⟩) ∧ Below w.heap.size w w' :=
  row_any w g 0 3 3 [x, y, z] ⟨rfl⟩ (by omega) (by omega) ⟨fun j u hu W hW => cell_later' hW (by
    match j, hu with
    | 0, hu => simp at hu; subst hu; exact h0
    | 1, hu => simp at hu; subst hu; exact h1
    | 2, hu => simp at hu; subst hu; exact h2
    | j + 3, hu => simp at hu)⟩ ⟨fun u hu => by simp at hu; rcases hu with rfl | rfl | rfl <;> assumption⟩ ⟨hG⟩
theorem row5 (w : World) (g : Nat) (a b c d e : Int) (ha : IntOk a) (hb : IntOk b) (hc : IntOk c) (hd : IntOk d) (he : IntOk e) (h0 : w.cell? ⟨g, 0, none⟩ = some (.int .i64 a)) (h1 : w.cell? ⟨g, 1, none⟩ = some (.int .i64 b)) (h2 : w.cell? ⟨g, 2, none⟩ = some (.int .i64 c)) (h3 : w.cell? ⟨g, 3, none⟩ = some (.int .i64 d)) (h4 : w.cell? ⟨g, 4, none⟩ = some (.int .i64 e)) (hG : Glob w) :
    Calls Tryz.prog 11 #[.slice (some ⟨g, 0, none⟩) 5 5] w fun r w' => r = .returned (.string ⟨(rowText [a, b, c, d, e]).toArray⟩) ∧ Below w.heap.size w w' :=
  row_any w g 0 5 5 [a, b, c, d, e] ⟨rfl⟩ (by omega) (by omega) ⟨fun j u hu W hW => cell_later' hW (by
    match j, hu with
    | 0, hu => simp at hu; subst hu; exact h0
    | 1, hu => simp at hu; subst hu; exact h1
    | 2, hu => simp at hu; subst hu; exact h2
    | 3, hu => simp at hu; subst hu; exact h3
    | 4, hu => simp at hu; subst hu; exact h4
    | j + 5, hu => simp at hu)⟩ ⟨fun u hu => by simp at hu; rcases hu with rfl | rfl | rfl | rfl | rfl <;> assumption⟩ ⟨hG⟩

/-- a sum of texts, for the walk to take -/
theorem add_eq (x y : Rem.Str) (hx : x.length ≤ 100000) (hy : y.length ≤ 100000) (W : World) : Sem.run Tryz.prog (Op.stringOp .add ⟨x.toArray⟩ ⟨y.toArray⟩) W = .ok (.string ⟨(x ++ y).toArray⟩) W := by
  rw [run_string_add_sum W _ _ (by rw [size_mk, size_mk]; omega), ByteArray.mk_append_mk]
end Go.Proofs.YtdlieanhdbbhiaaGreatDoor
