/- The program's data in plain Lean, and how they lie in memory. -/
import Derived.Test.YtlhfajmcnbcabaaEq
import Derived.Test.YtlhfajmcnbcabaaFwD
namespace Go.Proofs.Ytlhfajmcnbcabaa
open Go Go.Fw
abbrev Str := ByteArray
structure Val where
  n : Int
  s : Str
  r : Int
deriving Inhabited
structure Obj where
  id : Int
  t : Int
  f : List Val
deriving Inhabited
structure Fld where
  name : Str
  kind : Int
  to : Str
deriving Inhabited
structure Typ where
  name : Str
  f : List Fld
deriving Inhabited
structure Gr where
  s : List Typ
  o : List Obj
  roots : List Int
deriving Inhabited
structure Chg where
  new : List Int
  gone : List Int
  set : List (Int × Int)
  roots : List Int
deriving Inhabited

def tI (n : Int) : T := .lit (.int .i64 n)
def tS (s : Str) : T := .lit (.string s)
def tB (b : Bool) : T := .lit (.bool b)
def rowsOf {α : Type} [Inhabited α] (sz : Nat) (enc : α → List T) (xs : List α) : T := .rows sz xs.length (fun i => enc (xs.getD i default))
def eInt (n : Int) : List T := [tI n]
def eVal (v : Val) : List T := [tI v.n, tS v.s, tI v.r]
def eObj (o : Obj) : List T := [tI o.id, tI o.t, rowsOf 3 eVal o.f]
def eFld (f : Fld) : List T := [tS f.name, tI f.kind, tS f.to]
def eTyp (t : Typ) : List T := [tS t.name, rowsOf 3 eFld t.f]
def eGr (g : Gr) : List T := [rowsOf 2 eTyp g.s, rowsOf 3 eObj g.o, rowsOf 1 eInt g.roots]
def ePair (p : Int × Int) : List T := [tI p.1, tI p.2]
def eChg (c : Chg) : List T := [rowsOf 1 eInt c.new, rowsOf 1 eInt c.gone, rowsOf 2 ePair c.set, rowsOf 1 eInt c.roots]
def dat : List T → List D
  | [] => []
  | t :: r => .data t :: dat r
/-- A struct's value; an int's, and so on. -/
def sA (l : List T) : SV := .c (.agg (dat l))
def s1 (t : T) : SV := .c (.one (.data t))
def sI (l : List T) : SV := .c (.one (.data (l.headD (tI 0))))
/-- The first place where something is so, or -1. -/
def idx {α : Type} (p : α → Bool) : List α → Int
  | [] => -1
  | x :: r => if p x then 0 else (let i := idx p r; if i < 0 then -1 else i + 1)
theorem idx_ge {α : Type} (p : α → Bool) : ∀ xs : List α, -1 ≤ idx p xs
  | [] => by simp [idx]
  | x :: r => by
    have := idx_ge p r
    simp only [idx]; split
    · omega
    · split <;> omega
theorem idx_at {α : Type} [Inhabited α] (p : α → Bool) : ∀ (xs : List α) (i : Nat), i < xs.length → (∀ j, j < i → p (xs.getD j default) = false) → p (xs.getD i default) = true → idx p xs = i
  | [], i, h, _, _ => by simp at h
  | x :: r, 0, _, _, h => by simp at h; simp [idx, h]
  | x :: r, i + 1, hl, hn, h => by
    have h0 := hn 0 (by omega)
    simp only [List.getD_cons_zero] at h0
    have := idx_at p r i (by simpa using hl) (fun j hj => by simpa using hn (j + 1) (by omega)) (by simpa using h)
    simp only [idx, h0, this]; simp
    omega
theorem idx_no {α : Type} [Inhabited α] (p : α → Bool) : ∀ (xs : List α), (∀ j, j < xs.length → p (xs.getD j default) = false) → idx p xs = -1
  | [], _ => rfl
  | x :: r, hn => by
    have h0 := hn 0 (by simp)
    simp only [List.getD_cons_zero] at h0
    have := idx_no p r (fun j hj => by simpa using hn (j + 1) (by simpa using hj))
    simp only [idx, h0, this]; simp
theorem upto_succ {p : Nat → Bool} {i : Nat} (h : ∀ j, j < i → p j = false) (hi : p i = false) : ∀ j, j < i + 1 → p j = false := by
  intro j hj
  rcases Nat.lt_succ_iff_lt_or_eq.1 hj with h1 | rfl
  · exact h j h1
  · exact hi
def eqL {α : Type} (q : α → α → Bool) : List α → List α → Bool
  | [], [] => true
  | x :: xs, y :: ys => q x y && eqL q xs ys
  | _, _ => false
theorem eqL_len {α : Type} (q : α → α → Bool) : ∀ xs ys : List α, xs.length ≠ ys.length → eqL q xs ys = false
  | [], [], h => absurd rfl h
  | [], _ :: _, _ => rfl
  | _ :: _, [], _ => rfl
  | x :: xs, y :: ys, h => by simp only [eqL, eqL_len q xs ys (by simpa using h), Bool.and_false]
theorem eqL_no {α : Type} [Inhabited α] (q : α → α → Bool) : ∀ (xs ys : List α) (i : Nat), i < xs.length → q (xs.getD i default) (ys.getD i default) = false → eqL q xs ys = false
  | [], _, i, h, _ => by simp at h
  | _ :: _, [], _, _, _ => rfl
  | x :: xs, y :: ys, 0, _, h => by simp at h; simp [eqL, h]
  | x :: xs, y :: ys, i + 1, hl, h => by simp only [eqL, eqL_no q xs ys i (by simpa using hl) (by simpa using h), Bool.and_false]
theorem eqL_yes {α : Type} [Inhabited α] (q : α → α → Bool) : ∀ (xs ys : List α), xs.length = ys.length → (∀ i, i < xs.length → q (xs.getD i default) (ys.getD i default) = true) → eqL q xs ys = true
  | [], [], _, _ => rfl
  | [], _ :: _, h, _ => by simp at h
  | _ :: _, [], h, _ => by simp at h
  | x :: xs, y :: ys, hl, h => by
    have h0 := h 0 (by simp)
    simp only [List.getD_cons_zero] at h0
    simp only [eqL, h0, eqL_yes q xs ys (by simpa using hl) (fun i hi => by simpa using h (i + 1) (by simpa using hi)), Bool.and_true]
def vVal (v : Val) : List Value := [.int .i64 v.n, .string v.s, .int .i64 v.r]
def vFld (v : Fld) : List Value := [.string v.name, .int .i64 v.kind, .string v.to]
def vPair (p : Int × Int) : List Value := [.int .i64 p.1, .int .i64 p.2]
def qVal (a b : Val) : Bool := eqCells (vVal a) (vVal b)
def qFld (a b : Fld) : Bool := eqCells (vFld a) (vFld b)
def qPair (a b : Int × Int) : Bool := eqCells (vPair a) (vPair b)
def qInt (a b : Int) : Bool := a == b
/-- Whether something is so at each place. -/
def allI {α : Type} [Inhabited α] (p : Nat → α → Bool) (xs : List α) : Bool := (List.range xs.length).all fun i => p i (xs.getD i default)
theorem allI_no {α : Type} [Inhabited α] {p : Nat → α → Bool} {xs : List α} (i : Nat) (hi : i < xs.length) (h : p i (xs.getD i default) = false) : allI p xs = false := by
  unfold allI
  rw [List.all_eq_false]
  exact ⟨i, List.mem_range.2 hi, by rw [h]; simp⟩
theorem allI_yes {α : Type} [Inhabited α] {p : Nat → α → Bool} {xs : List α} (h : ∀ i, i < xs.length → p i (xs.getD i default) = true) : allI p xs = true := by
  unfold allI
  rw [List.all_eq_true]
  exact fun i hi => h i (List.mem_range.1 hi)
theorem upto_yes {p : Nat → Bool} {i : Nat} (h : ∀ j, j < i → p j = true) (hi : p i = true) : ∀ j, j < i + 1 → p j = true := by
  intro j hj
  rcases Nat.lt_succ_iff_lt_or_eq.1 hj with h1 | rfl
  · exact h j h1
  · exact hi
end Go.Proofs.Ytlhfajmcnbcabaa
