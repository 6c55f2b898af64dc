/- What the script and words packages compute, as plain functions on lists of bytes. No program in sight. -/
namespace Rem

abbrev Str := List UInt8

def digit (c : UInt8) : Bool := decide (48 ≤ c.toNat) && decide (c.toNat ≤ 57)
def plainByte (c : UInt8) : Bool := decide (32 ≤ c.toNat) && decide (c.toNat ≤ 126)
/-- The number that digits write. -/
def shiftIn (a : Nat) (c : UInt8) : Nat := 10 * a + (c.toNat - 48)
def valFrom (a : Nat) (l : Str) : Nat := l.foldl shiftIn a
theorem valFrom_nil (a : Nat) : valFrom a [] = a := rfl
theorem valFrom_cons (a : Nat) (c : UInt8) (r : Str) : valFrom a (c :: r) = valFrom (shiftIn a c) r := by
  unfold valFrom
  rw [List.foldl_cons]
def val (l : Str) : Nat := valFrom 0 l

/-- A line, cut at its blanks. -/
def cut32 : Str → List Str
  | [] => [[]]
  | c :: r => if c.toNat = 32 then [] :: cut32 r else
    match cut32 r with
    | [] => [[c]]
    | w :: ws => (c :: w) :: ws

/-- words.Split -/
def split (l : Str) : Option (List Str) :=
  if l.all plainByte && (cut32 l).all (fun w => !w.isEmpty) then some (cut32 l) else none

/-- digits, one to 'most' of them, no nought ahead of others -/
def digits (most : Nat) (w : Str) : Option Nat :=
  if 1 ≤ w.length ∧ w.length ≤ most ∧ ¬ (w.head? = some 48 ∧ 1 < w.length) ∧ w.all digit = true then some (val w) else none
/-- script.number -/
def number (w : Str) : Option Nat := digits 19 w
/-- words.Number -/
def wnumber (w : Str) (most : Int) : Option Nat :=
  match digits 9 w with
  | some n => if (n : Int) ≤ most then some n else none
  | none => none

/-- an int64, as a set has it -/
def whole (v : Str) : Option Int :=
  match v with
  | c :: d =>
    if c.toNat = 45 then
      match number d with
      | some n => if n = 0 ∨ 9223372036854775808 < n then none else some (-(n : Int))
      | none => none
    else
      match number v with
      | some n => if 9223372036854775807 < n then none else some (n : Int)
      | none => none
  | [] => none

/-- script.set -/
def set (w : Str) : Option (Int × Int) :=
  match w with
  | a :: e :: v => if 97 ≤ a.toNat ∧ a.toNat ≤ 122 ∧ e.toNat = 61 then (whole v).map fun n => (((a.toNat - 97 : Nat) : Int), n) else none
  | _ => none

/-- script.sets -/
def sets : List Str → Option (List (Int × Int))
  | [] => some []
  | w :: r => match set w, sets r with
    | some x, some l => some (x :: l)
    | _, _ => none

structure Op where
  kind : Int
  id : Int
  n : Nat
  text : Str
  sets : List (Int × Int)
deriving DecidableEq, Repr

def kindOf (w : Str) : Int :=
  if w = [100, 101, 112, 108, 111, 121] then 1
  else if w = [98, 101, 103, 105, 110] then 2
  else if w = [116, 105, 99, 107] then 3
  else if w = [102, 101, 116, 99, 104] then 4
  else if w = [99, 111, 109, 112, 108, 101, 116, 101] then 5
  else if w = [103, 105, 118, 101, 117, 112] then 6
  else if w = [108, 111, 111, 107] then 7
  else 0

/-- script.line: of a deploy, n is how many lines it has. -/
def line (s : Str) : Option Op :=
  match split s with
  | none => none
  | some [] => none
  | some (w :: l) =>
    let k := kindOf w
    if k = 0 then none
    else if k = 4 then (if l = [] then some ⟨4, 0, 0, [], []⟩ else none)
    else match l with
      | [] => none
      | a :: r =>
        if k = 3 then
          match number a with
          | some n => if n ≤ 4611686018427387904 ∧ r = [] then some ⟨3, 0, n, [], []⟩ else none
          | none => none
        else if k = 1 then
          match wnumber a 6000 with
          | some n => if r = [] then some ⟨1, 0, n, [], []⟩ else none
          | none => none
        else
          match wnumber a 999999999 with
          | none => none
          | some n =>
            if k = 2 ∨ k = 5 then (sets r).map fun x => ⟨k, n, 0, [], x⟩
            else if r = [] then some ⟨k, n, 0, [], []⟩ else none

/-- up to the first byte 10, and what is behind it -/
def cut10 : Str → Option (Str × Str)
  | [] => none
  | c :: r => if c.toNat = 10 then some ([], r) else (cut10 r).map fun (a, b) => (c :: a, b)

/-- script.cut: so many lines, and the rest -/
def lines : Nat → Str → Option (Str × Str)
  | 0, s => some ([], s)
  | n + 1, s => match cut10 s with
    | none => none
    | some (a, b) => (lines n b).map fun (x, y) => (a ++ 10 :: x, y)

theorem cut10_lt {s a b : Str} (h : cut10 s = some (a, b)) : b.length < s.length := by
  induction s generalizing a b with
  | nil => simp [cut10] at h
  | cons c r ih =>
    simp only [cut10] at h
    split at h
    · simp only [Option.some.injEq, Prod.mk.injEq] at h
      obtain ⟨_, rfl⟩ := h
      simp
    · simp only [Option.map_eq_some_iff] at h
      obtain ⟨⟨x, y⟩, hx, he⟩ := h
      simp only [Prod.mk.injEq] at he
      obtain ⟨_, rfl⟩ := he
      have := ih hx
      simp
      omega
theorem lines_le {n : Nat} {s a b : Str} (h : lines n s = some (a, b)) : b.length ≤ s.length := by
  induction n generalizing s a b with
  | zero => simp [lines] at h; simp [h.2]
  | succ n ih =>
    simp only [lines] at h
    split at h
    · cases h
    · rename_i x y hc
      simp only [Option.map_eq_some_iff] at h
      obtain ⟨⟨u, v⟩, hx, he⟩ := h
      simp only [Prod.mk.injEq] at he
      obtain ⟨_, rfl⟩ := he
      have := ih hx
      have := cut10_lt hc
      omega

/-- one op off a text: the op, the rest, and how many lines it took; none: the line does not fit -/
def one (s : Str) : Option (Op × Str × Nat) :=
  match cut10 s with
  | none => none
  | some (t, rest) =>
    match line t with
    | none => none
    | some op =>
      if op.kind = 1 then
        match lines op.n rest with
        | none => none
        | some (x, y) => some ({ op with text := x, n := 0 }, y, op.n + 1)
      else some (op, rest, 1)

theorem one_lt {s : Str} {o : Op} {r : Str} {k : Nat} (h : one s = some (o, r, k)) : r.length < s.length := by
  unfold one at h
  split at h
  · cases h
  · rename_i t rest hc
    have := cut10_lt hc
    split at h
    · cases h
    · split at h
      · split at h
        · cases h
        · rename_i x y hl
          have := lines_le hl
          simp only [Option.some.injEq, Prod.mk.injEq] at h
          obtain ⟨_, rfl, _⟩ := h
          omega
      · simp only [Option.some.injEq, Prod.mk.injEq] at h
        obtain ⟨_, rfl, _⟩ := h
        omega

/-- script.Parse from a line on: the ops, or the first line that is none. 'fuel': above the text's length. -/
def parseFrom : Nat → Nat → Str → List Op ⊕ Nat
  | 0, at_, _ => .inr at_
  | f + 1, at_, s =>
    match s with
    | [] => .inl []
    | _ :: _ =>
      match one s with
      | none => .inr at_
      | some (o, r, k) => match parseFrom f (at_ + k) r with
        | .inl l => .inl (o :: l)
        | .inr e => .inr e
def parse (s : Str) : List Op ⊕ Nat := parseFrom (s.length + 1) 1 s

def str (s : String) : Str := s.toUTF8.data.toList
end Rem
