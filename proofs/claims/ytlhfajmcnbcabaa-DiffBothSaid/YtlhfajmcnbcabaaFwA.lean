/- The framework, part 1: symbolic data, what a world holds of them, states, and what moves them. -/
import Derived.Below
import Derived.Tactics
import Derived.Deep.LoopGhost
import Derived.Deep.Draws
import Derived.KernelRfl
import Derived.Laws.StructEq
set_option linter.unusedVariables false
namespace Go.Fw
open Go

/-- Plain data that nobody writes: a cell's value, or a slice of rows of cells. -/
inductive T where
  | lit (v : Value)
  | rows (sz n : Nat) (f : Nat → List T)
/-- A cell of the call's own making, or plain data. -/
inductive D where
  | data (t : T)
  | ref (id off : Nat)
  | eptr (id sz i j : Nat)
  | sub (id sz lo n : Nat)
  | base (id : Nat)
  | clo (f : FuncId) (ids : List Nat)
  | ifc (t : TypeId) (ag : Bool) (cs : List T)
  | rptr (cs : List T)
  | any
inductive Cv where
  | one (d : D)
  | agg (ds : List D)
inductive SV where
  | c (x : Cv)
  | tup (l : List Cv)
inductive O where
  | box (t : TypeId) (cs : List D)
  | row (e sz : Nat) (rs : List (List D))
  | mp (es : List (Int × Cv))
  | mi (k : IntKind) (es : List (Int × Int))
  | mb (es : List (Int × Bool))
  | it (z : ByteArray) (pos : Nat)

instance : Inhabited T := ⟨.lit undef⟩
instance : Inhabited D := ⟨.any⟩
instance : Inhabited Cv := ⟨.one .any⟩
instance : Inhabited SV := ⟨.c (.one .any)⟩

abbrev Heap := List (Nat × O)
structure St where
  sl : List (Nat × SV)
  h : Heap
  nx : Nat

def lk {α : Type} : List (Nat × α) → Nat → Option α
  | [], _ => none
  | (k, v) :: r, d => bif Nat.beq k d then some v else lk r d

/-- The most elements that a slice has here. -/
def big : Nat := 140737488355328

/-- What a world holds of plain data: all cells lie in blocks of S. -/
inductive RT (S : Nat → Prop) (w : World) : T → Value → Prop
  | lit (v : Value) : RT S w (.lit v) v
  | rows (sz n : Nat) (f : Nat → List T) (A : Option Addr) (cap b o : Nat) (V : Nat → Nat → Value)
      (hn : n ≤ cap) (hb : n ≤ big) (hA : 0 < n → A = some ⟨b, o, none⟩ ∧ S b)
      (hl : ∀ i, i < n → (f i).length = sz)
      (hc : ∀ i j, i < n → j < sz → w.cell? ⟨b, o + i * sz + j, none⟩ = some (V i j))
      (hr : ∀ i j d, i < n → (f i)[j]? = some d → RT S w d (V i j)) : RT S w (.rows sz n f) (.slice A n cap)

def RTs (S : Nat → Prop) (w : World) : List T → List Value → Prop
  | [], [] => True
  | d :: ds, v :: vs => RT S w d v ∧ RTs S w ds vs
  | _, _ => False

/-- The block that a base value owns. -/
def vblk : Value → Option Nat
  | .pointer (some a) => some a.block
  | .slice (some a) _ cap => if cap = 0 then none else some a.block
  | .map (some r) => some r
  | _ => none

def blk (γ : Nat → Option Value) (id : Nat) : Option Nat := (γ id).bind vblk

inductive RD (γ : Nat → Option Value) (S : Nat → Prop) (w : World) : D → Value → Prop
  | data {t : T} {v : Value} (h : RT S w t v) : RD γ S w (.data t) v
  | any (v : Value) : RD γ S w .any v
  | base {id : Nat} {v : Value} (h : γ id = some v) : RD γ S w (.base id) v
  | ref {id off b : Nat} (h : blk γ id = some b) : RD γ S w (.ref id off) (.pointer (some ⟨b, off, none⟩))
  | eptr {id sz i j b : Nat} (h : blk γ id = some b) : RD γ S w (.eptr id sz i j) (.pointer (some ⟨b, i * sz + j, none⟩))
  | sub {id sz lo n b c : Nat} (h : blk γ id = some b) (hn : n ≤ c) : RD γ S w (.sub id sz lo n) (.slice (some ⟨b, lo * sz, none⟩) n c)
  | clo {f : FuncId} {ids : List Nat} {vs : List Value} (h : vs.map some = ids.map γ) : RD γ S w (.clo f ids) (.func (.func f) #[] vs.toArray)
  | ifc1 {t : TypeId} {d : T} {v : Value} (h : RT S w d v) : RD γ S w (.ifc t false [d]) (.iface t v)
  | ifcA {t : TypeId} {cs : List T} {vs : List Value} (h : RTs S w cs vs) : RD γ S w (.ifc t true cs) (.iface t (.agg vs.toArray))
  | rptr {cs : List T} {b o : Nat} {vs : List Value} (hS : S b) (hc : ∀ j v, vs[j]? = some v → w.cell? ⟨b, o + j, none⟩ = some v) (hr : RTs S w cs vs) :
      RD γ S w (.rptr cs) (.pointer (some ⟨b, o, none⟩))

def RDs (γ : Nat → Option Value) (S : Nat → Prop) (w : World) : List D → List Value → Prop
  | [], [] => True
  | d :: ds, v :: vs => RD γ S w d v ∧ RDs γ S w ds vs
  | _, _ => False

def RC (γ : Nat → Option Value) (S : Nat → Prop) (w : World) : Cv → Value → Prop
  | .one d, v => RD γ S w d v
  | .agg ds, v => ∃ vs : List Value, v = .agg vs.toArray ∧ RDs γ S w ds vs
def RCs (γ : Nat → Option Value) (S : Nat → Prop) (w : World) : List Cv → List Value → Prop
  | [], [] => True
  | d :: ds, v :: vs => RC γ S w d v ∧ RCs γ S w ds vs
  | _, _ => False
def RV (γ : Nat → Option Value) (S : Nat → Prop) (w : World) : SV → Value → Prop
  | .c x, v => RC γ S w x v
  | .tup l, v => ∃ vs : List Value, v = .tuple vs.toArray ∧ RCs γ S w l vs
def RVs (γ : Nat → Option Value) (S : Nat → Prop) (w : World) : List SV → List Value → Prop
  | [], [] => True
  | d :: ds, v :: vs => RV γ S w d v ∧ RVs γ S w ds vs
  | _, _ => False

/-- A map's entries: keys that are int's, each once. -/
def REs (γ : Nat → Option Value) (S : Nat → Prop) (w : World) : List (Int × Cv) → List MapEntry → Prop
  | [], [] => True
  | (k, v) :: r, e :: es => e.key = .int .i64 k ∧ RC γ S w v e.val ∧ REs γ S w r es
  | _, _ => False

def cvI (k : IntKind) (es : List (Int × Int)) : List (Int × Cv) := es.map fun x => (x.1, .one (.data (.lit (.int k x.2))))
def cvB (es : List (Int × Bool)) : List (Int × Cv) := es.map fun x => (x.1, .one (.data (.lit (.bool x.2))))
/-- What an object of the call's own is in memory. -/
inductive RO (γ : Nat → Option Value) (S : Nat → Prop) (w : World) (id : Nat) : O → Prop
  | box {t : TypeId} {cs : List D} {b : Nat} {vs : List Value} (hg : γ id = some (.pointer (some ⟨b, 0, none⟩))) (hh : w.heap[b]? = some (.cells vs.toArray t (0, 0)))
      (hr : RDs γ S w cs vs) (hS : ¬ S b) : RO γ S w id (.box t cs)
  | nil {e sz : Nat} {A : Option Addr} (hg : γ id = some (.slice A 0 0)) : RO γ S w id (.row e sz [])
  | row {e sz : Nat} {rs : List (List D)} {b cap : Nat} {vs rest : List Value} (hg : γ id = some (.slice (some ⟨b, 0, none⟩) rs.length cap)) (hcap : rs.length ≤ cap) (h0 : 0 < cap)
      (hbig : rs.length ≤ big) (hh : w.heap[b]? = some (.cells (vs ++ rest).toArray e (0, 0))) (hrest : rs.length * sz + rest.length = cap * sz) (hsz : ∀ r, r ∈ rs → r.length = sz)
      (hr : RDs γ S w rs.flatten vs) (hS : ¬ S b) : RO γ S w id (.row e sz rs)
  | mp {es : List (Int × Cv)} {r : Nat} {en : List MapEntry} {clock : Nat} (hg : γ id = some (.map (some r))) (hh : w.heap[r]? = some (.map en.toArray clock))
      (hr : REs γ S w es en) (hS : ¬ S r) : RO γ S w id (.mp es)
  | mi {k : IntKind} {es : List (Int × Int)} {r : Nat} {en : List MapEntry} {clock : Nat} (hg : γ id = some (.map (some r))) (hh : w.heap[r]? = some (.map en.toArray clock))
      (hr : REs γ S w (cvI k es) en) (hS : ¬ S r) : RO γ S w id (.mi k es)
  | mb {es : List (Int × Bool)} {r : Nat} {en : List MapEntry} {clock : Nat} (hg : γ id = some (.map (some r))) (hh : w.heap[r]? = some (.map en.toArray clock))
      (hr : REs γ S w (cvB es) en) (hS : ¬ S r) : RO γ S w id (.mb es)
  | it {z : ByteArray} {pos b : Nat} (hg : γ id = some (.pointer (some ⟨b, 0, none⟩))) (hh : w.heap[b]? = some (.stringIter z pos)) (hS : ¬ S b) : RO γ S w id (.it z pos)

def O.isRow : O → Bool
  | .row _ _ _ => true
  | _ => false
structure HeapOK (γ : Nat → Option Value) (S : Nat → Prop) (w : World) (h : Heap) : Prop where
  obj : ∀ id o, (id, o) ∈ h → RO γ S w id o
  apart : ∀ id o id' o', (id, o) ∈ h → (id', o') ∈ h → id ≠ id' → ∀ b, blk γ id = some b → blk γ id' ≠ some b
  keys : (h.map (·.1)).Nodup

/-- Below the old size, outside E, the world is as it was. -/
structure Kept (w0 : World) (E : Nat → Prop) (w : World) : Prop where
  os : w.os = w0.os
  tape : w.tape = w0.tape
  output : w.output = w0.output
  dr : w0.drawn ≤ w.drawn
  size : w0.heap.size ≤ w.heap.size
  block : ∀ k, k < w0.heap.size → ¬ E k → w.heap[k]? = w0.heap[k]?

structure Env where
  N : Nat
  w0 : World
  S0 : Nat → Prop
  γ0 : Nat → Option Value
  n0 : Nat
  H0 : List Nat
  R0 : List Nat

def Env.E (e : Env) (b : Nat) : Prop := ∃ id, id ∈ e.H0 ∧ blk e.γ0 id = some b

structure Rep (e : Env) (γ : Nat → Option Value) (S : Nat → Prop) (s : St) (a : Act) (w : World) : Prop where
  size : a.tmps.size = e.N
  defers : a.defers = []
  slots : ∀ d v, lk s.sl d = some v → RV γ S w v (a.tmps.getD d undef)
  heap : HeapOK γ S w s.h
  fresh : ∀ id o, (id, o) ∈ s.h → id < s.nx
  kept : Kept e.w0 e.E w
  sw : ∀ k, S k → k < w.heap.size
  s0 : ∀ k, e.S0 k → S k
  sin : ∀ k, S k → e.S0 k ∨ e.w0.heap.size ≤ k
  own : ∀ id o b, (id, o) ∈ s.h → blk γ id = some b → (id ∈ e.H0 ∧ blk e.γ0 id = some b) ∨ e.w0.heap.size ≤ b
  gam : ∀ id, id < e.n0 → id ∉ e.R0 → γ id = e.γ0 id
  ids : ∀ id o, (id, o) ∈ s.h → id ∈ e.H0 ∨ e.n0 ≤ id
  nx : e.n0 ≤ s.nx
  h0 : ∀ id, id ∈ e.H0 → id < e.n0
  rows : ∀ id o, (id, o) ∈ s.h → id ∈ e.H0 → o.isRow = true → id ∈ e.R0
  new : ∀ id, s.nx ≤ id → γ id = none

/-! ### Moving -/
/-- What S holds is in w' as it was in w. -/
def Same (S : Nat → Prop) (w w' : World) : Prop := ∀ k, S k → w'.heap[k]? = w.heap[k]?

theorem Same.cell {S : Nat → Prop} {w w' : World} (h : Same S w w') {b o : Nat} (hb : S b) : w'.cell? ⟨b, o, none⟩ = w.cell? ⟨b, o, none⟩ := by
  simp only [World.cell?, h b hb]

theorem RT.move {S S' : Nat → Prop} {w w' : World} (hs : Same S w w') (hS : ∀ k, S k → S' k) {t : T} {v : Value} (h : RT S w t v) : RT S' w' t v := by
  induction h with
  | lit v => exact .lit v
  | rows sz n f A cap b o V hn hb hA hl hc hr ih =>
    refine .rows sz n f A cap b o V hn hb (fun h0 => ⟨(hA h0).1, hS _ (hA h0).2⟩) hl (fun i j hi hj => ?_) (fun i j d hi hd => ih i j d hi hd)
    rw [hs.cell (hA (by omega)).2]; exact hc i j hi hj
theorem RTs.move {S S' : Nat → Prop} {w w' : World} (hs : Same S w w') (hS : ∀ k, S k → S' k) : ∀ {ts : List T} {vs : List Value}, RTs S w ts vs → RTs S' w' ts vs
  | [], [], _ => trivial
  | _ :: _, _ :: _, ⟨h, r⟩ => ⟨h.move hs hS, RTs.move hs hS r⟩
theorem RTs.length {S : Nat → Prop} {w : World} : ∀ {ts : List T} {vs : List Value}, RTs S w ts vs → ts.length = vs.length
  | [], [], _ => rfl
  | _ :: _, _ :: _, ⟨_, r⟩ => by simp [RTs.length r]
theorem RTs.get {S : Nat → Prop} {w : World} : ∀ {ts : List T} {vs : List Value}, RTs S w ts vs → ∀ {j : Nat} {d : T} {v : Value}, ts[j]? = some d → vs[j]? = some v → RT S w d v
  | [], [], _, j, d, v, hd, _ => by simp at hd
  | _ :: _, _ :: _, ⟨h, r⟩, 0, d, v, hd, hv => by
    simp at hd hv; subst hd; subst hv; exact h
  | _ :: _, _ :: _, ⟨h, r⟩, j + 1, d, v, hd, hv => RTs.get r (j := j) (by simpa using hd) (by simpa using hv)
theorem RTs.drop {S : Nat → Prop} {w : World} : ∀ (n : Nat) {ts : List T} {vs : List Value}, RTs S w ts vs → RTs S w (ts.drop n) (vs.drop n)
  | 0, _, _, h => by simpa using h
  | _ + 1, [], [], _ => trivial
  | n + 1, _ :: _, _ :: _, ⟨_, r⟩ => by simpa using RTs.drop n r
theorem RTs.take {S : Nat → Prop} {w : World} : ∀ (n : Nat) {ts : List T} {vs : List Value}, RTs S w ts vs → RTs S w (ts.take n) (vs.take n)
  | 0, _, _, _ => by simp [RTs]
  | _ + 1, [], [], _ => trivial
  | n + 1, _ :: _, _ :: _, ⟨h, r⟩ => by simpa using ⟨h, RTs.take n r⟩

/-- γ turned only where d does not look. -/
def D.has (id : Nat) : D → Bool
  | .ref i _ => Nat.beq i id
  | .eptr i _ _ _ => Nat.beq i id
  | .sub i _ _ _ => Nat.beq i id
  | .base i => Nat.beq i id
  | .clo _ ids => ids.any (Nat.beq · id)
  | _ => false

theorem blk_move {γ γ' : Nat → Option Value} {id b : Nat} (hg : ∀ v, γ id = some v → γ' id = γ id) (h : blk γ id = some b) : blk γ' id = some b := by
  unfold blk at h ⊢
  cases hv : γ id with
  | none => rw [hv] at h; cases h
  | some v => rw [hg v hv]; exact h
theorem RD.move {γ γ' : Nat → Option Value} {S S' : Nat → Prop} {w w' : World} (hs : Same S w w') (hS : ∀ k, S k → S' k) {d : D} {v : Value}
    (hg : ∀ id, d.has id = true → ∀ v, γ id = some v → γ' id = γ id) (h : RD γ S w d v) : RD γ' S' w' d v := by
  cases h with
  | data h => exact .data (h.move hs hS)
  | any => exact .any v
  | base h => exact .base (by rw [hg _ (by simp [D.has]) _ h]; exact h)
  | ref h => exact .ref (blk_move (hg _ (by simp [D.has])) h)
  | eptr h => exact .eptr (blk_move (hg _ (by simp [D.has])) h)
  | sub h hn => exact .sub (blk_move (hg _ (by simp [D.has])) h) hn
  | clo h =>
    rename_i f ids vs
    refine .clo ?_
    rw [h]
    apply List.map_congr_left
    intro id hid
    obtain ⟨v, hv, he⟩ : ∃ v, v ∈ vs ∧ some v = γ id := by
      have : γ id ∈ vs.map some := by rw [h]; exact List.mem_map.2 ⟨id, hid, rfl⟩
      simpa using this
    exact (hg id (by simp only [D.has, List.any_eq_true]; exact ⟨id, hid, by simp⟩) v he.symm).symm
  | ifc1 h => exact .ifc1 (h.move hs hS)
  | ifcA h => exact .ifcA (h.move hs hS)
  | rptr hb hc hr =>
    refine .rptr (hS _ hb) (fun j v hv => ?_) (hr.move hs hS)
    rw [hs.cell hb]; exact hc j v hv

def Cv.has (id : Nat) : Cv → Bool
  | .one d => d.has id
  | .agg ds => ds.any (D.has id)
def SV.has (id : Nat) : SV → Bool
  | .c x => x.has id
  | .tup l => l.any (Cv.has id)

theorem RDs.move {γ γ' : Nat → Option Value} {S S' : Nat → Prop} {w w' : World} (hs : Same S w w') (hS : ∀ k, S k → S' k) :
    ∀ {ds : List D} {vs : List Value}, (∀ id, ds.any (D.has id) = true → ∀ v, γ id = some v → γ' id = γ id) → RDs γ S w ds vs → RDs γ' S' w' ds vs
  | [], [], _, _ => trivial
  | d :: ds, _ :: _, hg, ⟨h, r⟩ => ⟨h.move hs hS (fun id hi => hg id (by simp [hi])), RDs.move hs hS (fun id hi => hg id (by simp only [List.any_cons, hi, Bool.or_true])) r⟩
theorem RC.move {γ γ' : Nat → Option Value} {S S' : Nat → Prop} {w w' : World} (hs : Same S w w') (hS : ∀ k, S k → S' k) {x : Cv} {v : Value}
    (hg : ∀ id, x.has id = true → ∀ v, γ id = some v → γ' id = γ id) (h : RC γ S w x v) : RC γ' S' w' x v := by
  cases x with
  | one d => exact RD.move hs hS hg h
  | agg ds =>
    obtain ⟨vs, rfl, h⟩ := h
    exact ⟨vs, rfl, h.move hs hS hg⟩
theorem RCs.move {γ γ' : Nat → Option Value} {S S' : Nat → Prop} {w w' : World} (hs : Same S w w') (hS : ∀ k, S k → S' k) :
    ∀ {ds : List Cv} {vs : List Value}, (∀ id, ds.any (Cv.has id) = true → ∀ v, γ id = some v → γ' id = γ id) → RCs γ S w ds vs → RCs γ' S' w' ds vs
  | [], [], _, _ => trivial
  | d :: ds, _ :: _, hg, ⟨h, r⟩ => ⟨h.move hs hS (fun id hi => hg id (by simp [hi])), RCs.move hs hS (fun id hi => hg id (by simp only [List.any_cons, hi, Bool.or_true])) r⟩
theorem RV.move {γ γ' : Nat → Option Value} {S S' : Nat → Prop} {w w' : World} (hs : Same S w w') (hS : ∀ k, S k → S' k) {x : SV} {v : Value}
    (hg : ∀ id, x.has id = true → ∀ v, γ id = some v → γ' id = γ id) (h : RV γ S w x v) : RV γ' S' w' x v := by
  cases x with
  | c x => exact RC.move hs hS hg h
  | tup l =>
    obtain ⟨vs, rfl, h⟩ := h
    exact ⟨vs, rfl, h.move hs hS hg⟩
theorem RVs.move {γ γ' : Nat → Option Value} {S S' : Nat → Prop} {w w' : World} (hs : Same S w w') (hS : ∀ k, S k → S' k) :
    ∀ {ds : List SV} {vs : List Value}, (∀ id, ds.any (SV.has id) = true → ∀ v, γ id = some v → γ' id = γ id) → RVs γ S w ds vs → RVs γ' S' w' ds vs
  | [], [], _, _ => trivial
  | d :: ds, _ :: _, hg, ⟨h, r⟩ => ⟨h.move hs hS (fun id hi => hg id (by simp [hi])), RVs.move hs hS (fun id hi => hg id (by simp only [List.any_cons, hi, Bool.or_true])) r⟩
theorem REs.move {γ γ' : Nat → Option Value} {S S' : Nat → Prop} {w w' : World} (hs : Same S w w') (hS : ∀ k, S k → S' k) :
    ∀ {ds : List (Int × Cv)} {vs : List MapEntry}, (∀ id, ds.any (fun x => x.2.has id) = true → ∀ v, γ id = some v → γ' id = γ id) → REs γ S w ds vs → REs γ' S' w' ds vs
  | [], [], _, _ => trivial
  | (k, v) :: ds, _ :: _, hg, ⟨hk, h, r⟩ => ⟨hk, h.move hs hS (fun id hi => hg id (by simp [hi])), REs.move hs hS (fun id hi => hg id (by simp only [List.any_cons, hi, Bool.or_true])) r⟩

theorem RDs.length {γ : Nat → Option Value} {S : Nat → Prop} {w : World} : ∀ {ts : List D} {vs : List Value}, RDs γ S w ts vs → ts.length = vs.length
  | [], [], _ => rfl
  | _ :: _, _ :: _, ⟨_, r⟩ => by simp [RDs.length r]
theorem RDs.get {γ : Nat → Option Value} {S : Nat → Prop} {w : World} : ∀ {ts : List D} {vs : List Value}, RDs γ S w ts vs → ∀ {j : Nat} {d : D} {v : Value}, ts[j]? = some d → vs[j]? = some v → RD γ S w d v
  | [], [], _, j, d, v, hd, _ => by simp at hd
  | _ :: _, _ :: _, ⟨h, r⟩, 0, d, v, hd, hv => by
    simp at hd hv; subst hd; subst hv; exact h
  | _ :: _, _ :: _, ⟨h, r⟩, j + 1, d, v, hd, hv => RDs.get r (j := j) (by simpa using hd) (by simpa using hv)
theorem RDs.drop {γ : Nat → Option Value} {S : Nat → Prop} {w : World} : ∀ (n : Nat) {ts : List D} {vs : List Value}, RDs γ S w ts vs → RDs γ S w (ts.drop n) (vs.drop n)
  | 0, _, _, h => by simpa using h
  | _ + 1, [], [], _ => trivial
  | n + 1, _ :: _, _ :: _, ⟨_, r⟩ => by simpa using RDs.drop n r
theorem RDs.take {γ : Nat → Option Value} {S : Nat → Prop} {w : World} : ∀ (n : Nat) {ts : List D} {vs : List Value}, RDs γ S w ts vs → RDs γ S w (ts.take n) (vs.take n)
  | 0, _, _, _ => by simp [RDs]
  | _ + 1, [], [], _ => trivial
  | n + 1, _ :: _, _ :: _, ⟨h, r⟩ => by simpa using ⟨h, RDs.take n r⟩
theorem RDs.append {γ : Nat → Option Value} {S : Nat → Prop} {w : World} : ∀ {ts us : List D} {vs ws : List Value}, RDs γ S w ts vs → RDs γ S w us ws → RDs γ S w (ts ++ us) (vs ++ ws)
  | [], _, [], _, _, h => h
  | _ :: _, _, _ :: _, _, ⟨h, r⟩, h' => ⟨h, RDs.append r h'⟩
theorem RDs.of_data {γ : Nat → Option Value} {S : Nat → Prop} {w : World} : ∀ {ts : List T} {vs : List Value}, RTs S w ts vs → RDs γ S w (ts.map D.data) vs
  | [], [], _ => trivial
  | _ :: _, _ :: _, ⟨h, r⟩ => ⟨.data h, RDs.of_data r⟩
theorem RDs.set {γ : Nat → Option Value} {S : Nat → Prop} {w : World} : ∀ {ts : List D} {vs : List Value} {d : D} {v : Value} (j : Nat), RDs γ S w ts vs → RD γ S w d v → RDs γ S w (ts.set j d) (vs.set j v)
  | [], [], _, _, _, _, _ => trivial
  | _ :: _, _ :: _, _, _, 0, ⟨_, r⟩, hd => ⟨hd, r⟩
  | _ :: _, _ :: _, _, _, j + 1, ⟨h, r⟩, hd => ⟨h, RDs.set j r hd⟩

/-- An object's block. -/
theorem RO.blk_lt {γ : Nat → Option Value} {S : Nat → Prop} {w : World} {id : Nat} {o : O} (h : RO γ S w id o) {b : Nat} (hb : blk γ id = some b) : b < w.heap.size ∧ ¬ S b := by
  cases h with
  | box hg hh _ hS => simp [blk, hg, vblk] at hb; subst hb; exact ⟨(Array.getElem?_eq_some_iff.1 hh).1, hS⟩
  | nil hg => cases ‹Option Addr› <;> simp [blk, hg, vblk] at hb
  | row hg _ h0 _ hh _ _ _ hS =>
    simp only [blk, hg, vblk, Option.bind_some] at hb; rw [if_neg (by omega)] at hb; simp at hb; subst hb
    exact ⟨(Array.getElem?_eq_some_iff.1 hh).1, hS⟩
  | mp hg hh _ hS => simp [blk, hg, vblk] at hb; subst hb; exact ⟨(Array.getElem?_eq_some_iff.1 hh).1, hS⟩
  | mi hg hh _ hS => simp [blk, hg, vblk] at hb; subst hb; exact ⟨(Array.getElem?_eq_some_iff.1 hh).1, hS⟩
  | mb hg hh _ hS => simp [blk, hg, vblk] at hb; subst hb; exact ⟨(Array.getElem?_eq_some_iff.1 hh).1, hS⟩
  | it hg hh hS => simp [blk, hg, vblk] at hb; subst hb; exact ⟨(Array.getElem?_eq_some_iff.1 hh).1, hS⟩

def O.has (id : Nat) : O → Bool
  | .box _ cs => cs.any (D.has id)
  | .row _ _ rs => rs.any (fun r => r.any (D.has id))
  | .mp es => es.any (fun x => x.2.has id)
  | .mi _ _ => false
  | .mb _ => false
  | .it _ _ => false
theorem cvI_has (k : IntKind) (es : List (Int × Int)) (id : Nat) : (cvI k es).any (fun x => x.2.has id) = false := by
  simp only [cvI, List.any_map, List.any_eq_false]; intro x _; simp [Cv.has, D.has]
theorem cvB_has (es : List (Int × Bool)) (id : Nat) : (cvB es).any (fun x => x.2.has id) = false := by
  simp only [cvB, List.any_map, List.any_eq_false]; intro x _; simp [Cv.has, D.has]

theorem any_flatten {α : Type} (p : α → Bool) (rs : List (List α)) : rs.flatten.any p = rs.any (fun r => r.any p) := by
  induction rs with
  | nil => rfl
  | cons r rs ih => simp

theorem RO.move {γ γ' : Nat → Option Value} {S S' : Nat → Prop} {w w' : World} (hs : Same S w w') (hS : ∀ k, S k → S' k) {id : Nat} {o : O}
    (hg : ∀ i, o.has i = true → ∀ v, γ i = some v → γ' i = γ i) (hid : γ' id = γ id) (hblk : ∀ b, blk γ id = some b → w'.heap[b]? = w.heap[b]? ∧ (¬ S b → ¬ S' b)) (h : RO γ S w id o) : RO γ' S' w' id o := by
  cases h with
  | box hg' hh hr hS' =>
    rename_i b _
    have := hblk b (by simp [blk, hg', vblk])
    exact .box (hid.trans hg') (this.1.trans hh) (hr.move hs hS hg) (this.2 hS')
  | nil hg' => exact .nil (hid.trans hg')
  | row hg' hcap h0 hbig hh hrest hsz hr hS' =>
    have := hblk _ (by simp only [blk, hg', vblk, Option.bind_some]; rw [if_neg (by omega)])
    exact .row (hid.trans hg') hcap h0 hbig (this.1.trans hh) hrest hsz (hr.move hs hS (by intro i hi; rw [any_flatten] at hi; exact hg i hi)) (this.2 hS')
  | mp hg' hh hr hS' =>
    rename_i r _ _
    have := hblk r (by simp [blk, hg', vblk])
    exact .mp (hid.trans hg') (this.1.trans hh) (hr.move hs hS hg) (this.2 hS')
  | mi hg' hh hr hS' =>
    rename_i k es r _ _
    have := hblk r (by simp [blk, hg', vblk])
    exact .mi (hid.trans hg') (this.1.trans hh) (hr.move hs hS (by intro i hi; rw [cvI_has] at hi; cases hi)) (this.2 hS')
  | mb hg' hh hr hS' =>
    rename_i es r _ _
    have := hblk r (by simp [blk, hg', vblk])
    exact .mb (hid.trans hg') (this.1.trans hh) (hr.move hs hS (by intro i hi; rw [cvB_has] at hi; cases hi)) (this.2 hS')
  | it hg' hh hS' =>
    rename_i z pos b
    have := hblk b (by simp [blk, hg', vblk])
    exact .it (hid.trans hg') (this.1.trans hh) (this.2 hS')

theorem Kept.trans {w0 w w' : World} {E : Nat → Prop} (h : Kept w0 E w) (hos : w'.os = w.os) (ht : w'.tape = w.tape ∧ w.drawn ≤ w'.drawn) (ho : w'.output = w.output) (hsz : w.heap.size ≤ w'.heap.size)
    (hb : ∀ k, k < w0.heap.size → ¬ E k → w'.heap[k]? = w.heap[k]?) : Kept w0 E w' :=
  ⟨hos.trans h.os, ht.1.trans h.tape, ho.trans h.output, Nat.le_trans h.dr ht.2, Nat.le_trans h.size hsz, fun k hk he => (hb k hk he).trans (h.block k hk he)⟩

theorem lk_mem {α : Type} : ∀ {l : List (Nat × α)} {d : Nat} {v : α}, lk l d = some v → (d, v) ∈ l
  | [], _, _, h => by simp [lk] at h
  | (k, x) :: r, d, v, h => by
    simp only [lk] at h
    cases hk : Nat.beq k d with
    | true => rw [hk] at h; simp at h; rw [Nat.eq_of_beq_eq_true hk, h]; exact List.mem_cons_self
    | false => rw [hk] at h; simp at h; exact List.mem_cons_of_mem _ (lk_mem h)
theorem lk_cons {α : Type} (k : Nat) (x : α) (r : List (Nat × α)) (d : Nat) : lk ((k, x) :: r) d = if k = d then some x else lk r d := by
  simp only [lk]
  by_cases h : k = d
  · subst h; simp
  · have : Nat.beq k d = false := by
      cases hb : Nat.beq k d with
      | true => exact absurd (Nat.eq_of_beq_eq_true hb) h
      | false => rfl
    simp [this, h]
end Go.Fw
/- The framework, part 2: what a program's types are, and operations that hand back a value and turn nothing. -/
set_option linter.unusedVariables false
set_option linter.unusedSimpArgs false
namespace Go.Fw
open Go

inductive TK where
  | other | bool | int (k : IntKind) | str | ptr (e : TypeId) | slice (e : TypeId) | array (n : Nat) (e : TypeId) | map (k e : TypeId) | strct (fs : List (Nat × TypeId)) | iface
structure TI where
  sz : Nat
  bytes : Nat
  zero : Option Value
  k : TK
def tkOf : TypeDesc → TK
  | .bool => .bool
  | .int k => .int k
  | .string => .str
  | .pointer e => .ptr e
  | .slice e => .slice e
  | .array n e => .array n e
  | .map k e => .map k e
  | .struct fs => .strct (fs.toList.map fun f => (f.offset, f.type))
  | .interface _ => .iface
  | _ => .other
def tiOf (P : Program) (t : TypeId) : Option TI :=
  match P.info? t, P.underlying t with
  | some i, some d => some ⟨i.size, i.bytes, i.zero, tkOf d⟩
  | _, _ => none
abbrev Tab := TypeId → Option TI
def Tab.OK (T : Tab) (P : Program) : Prop := ∀ t i, T t = some i → tiOf P t = some i

def TK.agg : TK → Bool
  | .strct _ => true
  | .array _ _ => true
  | _ => false

section
variable {P : Program} {T : Tab} (hT : T.OK P) {t : TypeId} {i : TI} (w : World)
theorem tiOf_parts (h : tiOf P t = some i) : ∃ info d, P.info? t = some info ∧ P.underlying t = some d ∧ info.size = i.sz ∧ info.bytes = i.bytes ∧ info.zero = i.zero ∧ tkOf d = i.k := by
  unfold tiOf at h
  split at h
  · rename_i info d h1 h2
    simp only [Option.some.injEq] at h
    subst h
    exact ⟨info, d, h1, h2, rfl, rfl, rfl, rfl⟩
  · cases h
include hT
theorem Tab.sizeOf (h : T t = some i) : (Go.sizeOf t).run P w = .ok i.sz w := by
  obtain ⟨info, d, h1, _, h3, _⟩ := tiOf_parts (hT t i h)
  simp [Go.sizeOf, typeInfo, h1, h3, Sem.run, program]
theorem Tab.typeInfo (h : T t = some i) : ∃ info, P.info? t = some info ∧ info.size = i.sz ∧ info.bytes = i.bytes ∧ info.zero = i.zero := by
  obtain ⟨info, d, h1, _, h3, h4, h5, _⟩ := tiOf_parts (hT t i h)
  exact ⟨info, h1, h3, h4, h5⟩
theorem Tab.under (h : T t = some i) : ∃ d, P.underlying t = some d ∧ tkOf d = i.k := by
  obtain ⟨info, d, _, h2, _, _, _, h6⟩ := tiOf_parts (hT t i h)
  exact ⟨d, h2, h6⟩
theorem Tab.isAgg (h : T t = some i) : (Go.isAgg t).run P w = .ok i.k.agg w := by
  obtain ⟨d, h2, h6⟩ := Tab.under hT h
  simp only [Go.isAgg, Sem.run_bind, run_underlying h2, Result.andThen_ok, ← h6]
  cases d <;> simp [tkOf, TK.agg]
theorem Tab.zero (h : T t = some i) {z : Value} (hz : i.zero = some z) : (zeroValue t).run P w = .ok z w := by
  obtain ⟨info, h1, _, _, h5⟩ := Tab.typeInfo hT h
  simp [zeroValue, Go.typeInfo, h1, h5, hz, Sem.run, program]
theorem Tab.slice (h : T t = some i) {e : TypeId} (hk : i.k = .slice e) : P.underlying t = some (.slice e) := by
  obtain ⟨d, h2, h6⟩ := Tab.under hT h
  rw [hk] at h6
  cases d <;> simp [tkOf] at h6
  rw [h2, h6]
theorem Tab.array (h : T t = some i) {n : Nat} {e : TypeId} (hk : i.k = .array n e) : P.underlying t = some (.array n e) := by
  obtain ⟨d, h2, h6⟩ := Tab.under hT h
  rw [hk] at h6
  cases d <;> simp [tkOf] at h6
  rw [h2, h6.1, h6.2]
theorem Tab.map (h : T t = some i) {n e : TypeId} (hk : i.k = .map n e) : P.underlying t = some (.map n e) := by
  obtain ⟨d, h2, h6⟩ := Tab.under hT h
  rw [hk] at h6
  cases d <;> simp [tkOf] at h6
  rw [h2, h6.1, h6.2]
theorem Tab.int (h : T t = some i) {k : IntKind} (hk : i.k = .int k) : P.underlying t = some (.int k) := by
  obtain ⟨d, h2, h6⟩ := Tab.under hT h
  rw [hk] at h6
  cases d <;> simp [tkOf] at h6
  rw [h2, h6]
theorem Tab.str (h : T t = some i) (hk : i.k = .str) : P.underlying t = some .string := by
  obtain ⟨d, h2, h6⟩ := Tab.under hT h
  rw [hk] at h6
  cases d <;> simp [tkOf] at h6
  exact h2
theorem Tab.bool (h : T t = some i) (hk : i.k = .bool) : P.underlying t = some .bool := by
  obtain ⟨d, h2, h6⟩ := Tab.under hT h
  rw [hk] at h6
  cases d <;> simp [tkOf] at h6
  exact h2
theorem Tab.iface (h : T t = some i) (hk : i.k = .iface) : ∃ ms, P.underlying t = some (.interface ms) := by
  obtain ⟨d, h2, h6⟩ := Tab.under hT h
  rw [hk] at h6
  cases d <;> simp [tkOf] at h6
  exact ⟨_, h2⟩
theorem Tab.strct (h : T t = some i) {fs : List (Nat × TypeId)} (hk : i.k = .strct fs) : ∃ fl : Array Field, P.underlying t = some (.struct fl) ∧ fl.toList.map (fun f => (f.offset, f.type)) = fs := by
  obtain ⟨d, h2, h6⟩ := Tab.under hT h
  rw [hk] at h6
  cases d <;> simp [tkOf] at h6
  exact ⟨_, h2, by simpa using h6⟩
end

/-! ### Operands -/
def cstD : Value → D := fun v => .data (.lit v)
def cst : Value → SV
  | .agg cs => .c (.agg (cs.toList.map cstD))
  | .tuple cs => .tup (cs.toList.map fun v => .one (cstD v))
  | .func (.func f) first caps => match first.toList, caps.toList with
    | [], [] => .c (.one (.clo f []))
    | _, _ => .c (.one (cstD (.func (.func f) first caps)))
  | v => .c (.one (cstD v))
def St.op (s : St) : Operand → Option SV
  | .tmp t => lk s.sl t
  | .const v => some (cst v)
  | .func f => some (.c (.one (.clo f [])))
  | .global _ => none

theorem RDs.cst {γ : Nat → Option Value} {S : Nat → Prop} {w : World} : ∀ vs : List Value, RDs γ S w (vs.map cstD) vs
  | [] => trivial
  | v :: vs => ⟨.data (.lit v), RDs.cst vs⟩
theorem RCs.cst {γ : Nat → Option Value} {S : Nat → Prop} {w : World} : ∀ vs : List Value, RCs γ S w (vs.map fun v => .one (cstD v)) vs
  | [] => trivial
  | v :: vs => ⟨.data (.lit v), RCs.cst vs⟩
theorem RV.cst {γ : Nat → Option Value} {S : Nat → Prop} {w : World} (v : Value) : RV γ S w (Fw.cst v) v := by
  unfold Fw.cst
  split
  · rename_i cs; exact ⟨cs.toList, by simp, RDs.cst _⟩
  · rename_i cs; exact ⟨cs.toList, by simp, RCs.cst _⟩
  · rename_i f first caps
    split
    · rename_i h1 h2
      obtain rfl : first = #[] := by simpa using h1
      obtain rfl : caps = #[] := by simpa using h2
      exact .clo (vs := []) rfl
    · exact .data (.lit _)
  · exact .data (.lit v)
theorem Rep.op {e : Env} {γ : Nat → Option Value} {S : Nat → Prop} {s : St} {a : Act} {w : World} (h : Rep e γ S s a w) {x : Operand} {v : SV} (hx : s.op x = some v) : RV γ S w v (a.eval x) := by
  cases x with
  | tmp t => exact h.slots t v hx
  | const c => simp only [St.op, Option.some.injEq] at hx; subst hx; exact RV.cst c
  | func f => simp only [St.op, Option.some.injEq] at hx; subst hx; exact .clo (vs := []) rfl
  | global g => cases hx

/-! ### Loads -/
theorem loadCellsFrom_list {P : Program} (w : World) (b : Nat) : ∀ (vs : List Value) (o i : Nat) (acc : Array Value),
    (∀ j v, vs[j]? = some v → w.cell? ⟨b, o + i + j, none⟩ = some v) → (loadCellsFrom ⟨b, o, none⟩ i vs.length acc).run P w = .ok (acc ++ vs.toArray) w
  | [], o, i, acc, _ => by simp [loadCellsFrom]
  | v :: vs, o, i, acc, h => by
    have h0 := h 0 v rfl
    have ha : (⟨b, o, none⟩ : Addr).add i = ⟨b, o + i, none⟩ := by
      unfold Addr.add; split
      · rename_i hi; subst hi; rfl
      · rfl
    have ih := loadCellsFrom_list (P := P) w b vs o (i + 1) (acc.push v) (fun j u hu => by
      have := h (j + 1) u (by simpa using hu)
      rw [show o + (i + 1) + j = o + i + (j + 1) from by omega]; exact this)
    simp only [Nat.add_zero] at h0
    simp only [List.length_cons, loadCellsFrom, Sem.run_bind, run_load, ha, h0, Result.andThen_ok, ih]
    congr 1
    simp
theorem loadCells_list {P : Program} (w : World) (b o : Nat) (vs : List Value) (h : ∀ j v, vs[j]? = some v → w.cell? ⟨b, o + j, none⟩ = some v) :
    (loadCells ⟨b, o, none⟩ vs.length).run P w = .ok vs.toArray w := by
  have := loadCellsFrom_list (P := P) w b vs o 0 #[] (by simpa using h)
  simpa [loadCells] using this

/-- The cells that a pointer leads to, from it on. -/
def St.cells (s : St) : D → Option (List D)
  | .ref id off => match lk s.h id with
    | some (.box _ cs) => some (cs.drop off)
    | _ => none
  | .eptr id sz i j => match lk s.h id with
    | some (.row _ _ rs) => some (((rs.drop i).headD []).drop j)
    | _ => none
  | .rptr cs => some (cs.map .data)
  | _ => none

theorem add_none (b o k : Nat) : (⟨b, o, none⟩ : Addr).add k = ⟨b, o + k, none⟩ := by
  unfold Addr.add; split
  · rename_i h; subst h; rfl
  · rfl
theorem cell_of_block {w : World} {b : Nat} {vs : List Value} {t : TypeId} {fr : Nat × Nat} (h : w.heap[b]? = some (.cells vs.toArray t fr)) (o : Nat) : w.cell? ⟨b, o, none⟩ = vs[o]? := by
  simp [World.cell?, h]

theorem Rep.cells {e : Env} {γ : Nat → Option Value} {S : Nat → Prop} {s : St} {a : Act} {w : World} (h : Rep e γ S s a w) {d : D} {cs : List D} {v : Value} (hd : s.cells d = some cs) (hv : RD γ S w d v)
    (hsz : ∀ id sz i j, d = .eptr id sz i j → ∃ e rs, lk s.h id = some (.row e sz rs) ∧ i < rs.length ∧ j ≤ sz) :
    ∃ b o vs, v = .pointer (some ⟨b, o, none⟩) ∧ (∀ j v, vs[j]? = some v → w.cell? ⟨b, o + j, none⟩ = some v) ∧ RDs γ S w cs vs := by
  cases hv with
  | data | any | base | sub | clo | ifc1 | ifcA => simp [St.cells] at hd
  | rptr hS hc hr =>
    simp only [St.cells, Option.some.injEq] at hd; subst hd
    exact ⟨_, _, _, rfl, hc, RDs.of_data hr⟩
  | ref hb =>
    rename_i id off b
    simp only [St.cells] at hd
    split at hd
    · rename_i t cs' hl
      simp only [Option.some.injEq] at hd; subst hd
      have ho := h.heap.obj _ _ (lk_mem hl)
      cases ho with
      | box hg hh hr hS =>
        rename_i b' vs
        simp only [blk, hg, vblk, Option.bind_some, Option.some.injEq] at hb; subst hb
        refine ⟨_, _, vs.drop off, rfl, fun j v hj => ?_, hr.drop off⟩
        rw [cell_of_block hh]; simpa using hj
    · cases hd
  | eptr hb =>
    rename_i id sz i j b
    obtain ⟨et, rs, hl, hi, hj⟩ := hsz _ _ _ _ rfl
    simp only [St.cells, hl, Option.some.injEq] at hd; subst hd
    have ho := h.heap.obj _ _ (lk_mem hl)
    cases ho with
    | nil => simp at hi
    | row hg hcap h0 hbig hh hrest hsz' hr hS =>
      rename_i b' cap vs rest
      simp only [blk, hg, vblk, Option.bind_some] at hb; rw [if_neg (by omega)] at hb; simp only [Option.some.injEq] at hb; subst hb
      have hfl : rs.flatten = (rs.take i).flatten ++ (rs[i] ++ (rs.drop (i + 1)).flatten) := by
        have h4 := congrArg List.flatten (List.take_append_drop i rs).symm
        rw [List.drop_eq_getElem_cons hi, List.flatten_append, List.flatten_cons] at h4
        exact h4
      have hlen : ∀ l : List (List D), (∀ r, r ∈ l → r.length = sz) → l.flatten.length = l.length * sz := by
        intro l
        induction l with
        | nil => simp
        | cons r l ih =>
          intro hl
          simp only [List.flatten_cons, List.length_append, List.length_cons, ih (fun r hr => hl r (List.mem_cons_of_mem _ hr)), hl r List.mem_cons_self, Nat.succ_mul]
          omega
      have h1 : (rs.take i).flatten.length = i * sz := by
        rw [hlen _ (fun r hr => hsz' r (List.mem_of_mem_take hr))]
        simp [Nat.min_eq_left (Nat.le_of_lt hi)]
      have h2 : rs[i].length = sz := hsz' _ (List.getElem_mem hi)
      refine ⟨_, _, (vs.drop (i * sz + j)).take (sz - j), rfl, fun k v hk => ?_, ?_⟩
      · rw [cell_of_block hh]
        rw [List.getElem?_take] at hk
        split at hk
        · rw [List.getElem?_drop] at hk
          rw [List.getElem?_append_left (List.getElem?_eq_some_iff.1 hk).1]; exact hk
        · cases hk
      · have h3 : ((rs.drop i).headD []).drop j = (rs.flatten.drop (i * sz + j)).take (sz - j) := by
          rw [List.drop_eq_getElem_cons hi, List.headD_cons, hfl, ← List.drop_drop, List.drop_append_of_le_length (by omega), List.drop_of_length_le (l := (rs.take i).flatten) (by omega), List.nil_append,
            List.drop_append_of_le_length (by omega), List.take_append_of_le_length (by simp; omega), List.take_of_length_le (by simp; omega)]
        rw [h3]
        exact (hr.drop _).take _

end Go.Fw
/- The framework, part 3: operations that hand back a value and turn nothing: what each comes to. -/
set_option linter.unusedVariables false
set_option linter.unusedSimpArgs false
namespace Go.Fw
open Go

/-- What is equal cell by cell, as the model goes through a struct's fields. -/
inductive LK where
  | int (k : IntKind) | str | bool
def eqCells : List Value → List Value → Bool
  | .int _ a :: xs, .int _ b :: ys => (a == b) && eqCells xs ys
  | .string a :: xs, .string b :: ys => (a.toList == b.toList) && eqCells xs ys
  | .bool a :: xs, .bool b :: ys => (a == b) && eqCells xs ys
  | _, _ => true
def fitL : List LK → List Value → Bool
  | [], [] => true
  | .int k :: ls, .int k' _ :: vs => decide (k = k') && fitL ls vs
  | .str :: ls, .string _ :: vs => fitL ls vs
  | .bool :: ls, .bool _ :: vs => fitL ls vs
  | _, _ => false
abbrev EqT := TypeId → Option (List LK)
def EqT.OK (q : EqT) (P : Program) : Prop := ∀ t ls, q t = some ls → ∀ xs ys : List Value, fitL ls xs = true → fitL ls ys = true →
  ∀ (w : World) (op : BinOp) (x y : Operand), op = .eql ∨ op = .neq → (eqGuard op t x y (.agg xs.toArray) (.agg ys.toArray)).run P w = .ok () w ∧
    (Op.equal t (.agg xs.toArray) (.agg ys.toArray)).run P w = .ok (eqCells xs ys) w

/-- A literal's value. -/
def SV.val : SV → Option Value
  | .c (.one (.data (.lit v))) => some v
  | _ => none
def vals : List D → Option (List Value)
  | [] => some []
  | .data (.lit v) :: r => match vals r with
    | some vs => some (v :: vs)
    | none => none
  | _ => none
theorem SV.val_eq {γ : Nat → Option Value} {S : Nat → Prop} {w : World} {x : SV} {v u : Value} (h : x.val = some v) (hr : RV γ S w x u) : u = v := by
  unfold SV.val at h
  split at h
  · simp only [Option.some.injEq] at h; subst h
    cases hr with
    | data h => cases h; rfl
  · cases h
theorem vals_eq {γ : Nat → Option Value} {S : Nat → Prop} {w : World} : ∀ {ds : List D} {vs us : List Value}, vals ds = some vs → RDs γ S w ds us → us = vs
  | [], vs, [], h, _ => by simp [vals] at h; exact h.symm ▸ rfl
  | d :: ds, vs, u :: us, h, ⟨hd, hr⟩ => by
    cases d with
    | data t =>
      cases t with
      | lit v =>
        simp only [vals] at h
        cases hv : vals ds with
        | none => rw [hv] at h; cases h
        | some vs' =>
          rw [hv] at h; simp only [Option.some.injEq] at h; subst h
          rw [vals_eq hv hr]
          cases hd with
          | data hd => cases hd; rfl
      | rows => simp [vals] at h
    | _ => simp [vals] at h

def intOp (op : BinOp) (k : IntKind) (a b : Int) : Option (Prop × Value) :=
  match op with
  | .add => some (True, .int k (k.wrap (a + b)))
  | .sub => some (True, .int k (k.wrap (a - b)))
  | .mul => some (True, .int k (k.wrap (a * b)))
  | .quo => some (b ≠ 0, .int k (k.wrap (a.tdiv b)))
  | .rem => some (b ≠ 0, .int k (a.tmod b))
  | .and => some (True, .int k (k.wrap (BitVec.ofInt k.bits a &&& BitVec.ofInt k.bits b).toNat))
  | .or => some (True, .int k (k.wrap (BitVec.ofInt k.bits a ||| BitVec.ofInt k.bits b).toNat))
  | .xor => some (True, .int k (k.wrap (BitVec.ofInt k.bits a ^^^ BitVec.ofInt k.bits b).toNat))
  | .andNot => some (True, .int k (k.wrap (BitVec.ofInt k.bits a &&& ~~~(BitVec.ofInt k.bits b)).toNat))
  | .eql => some (True, .bool (a == b))
  | .neq => some (True, .bool (a != b))
  | .lss => some (True, .bool (a < b))
  | .leq => some (True, .bool (a ≤ b))
  | .gtr => some (True, .bool (a > b))
  | .geq => some (True, .bool (a ≥ b))
  | _ => none
def kindEq : IntKind → IntKind → Bool
  | .i64, .i64 | .i32, .i32 | .i16, .i16 | .i8, .i8 | .u64, .u64 | .u32, .u32 | .u16, .u16 | .u8, .u8 => true
  | _, _ => false
theorem kindEq_eq {k k' : IntKind} (h : kindEq k k' = true) : k = k' := by cases k <;> cases k' <;> first | rfl | cases h
def binV (T : Tab) (op : BinOp) (t : TypeId) (x y : Value) : Option (Prop × Value) :=
  match x, y with
  | .int k a, .int k' b =>
    match op with
    | .shl => some (0 ≤ b, .int k (k.wrap (a * 2 ^ (min b.toNat k.bits))))
    | .shr => some (0 ≤ b, .int k (a.fdiv (2 ^ (min b.toNat k.bits))))
    | op => bif kindEq k k' then intOp op k a b else none
  | .string a, .string b =>
    match op with
    | .eql => some (True, .bool (a.toList == b.toList))
    | .neq => some (True, .bool !(a.toList == b.toList))
    | .add => some (((a.size + b.size : Nat) : Int) ≤ IntKind.i64.max, .string (a ++ b))
    | _ => none
  | .bool a, .bool b =>
    match T t with
    | some i => match i.k with
      | .bool => match op with
        | .eql => some (True, .bool (a == b))
        | .neq => some (True, .bool (!(a == b)))
        | _ => none
      | _ => none
    | none => none
  | _, _ => none
theorem binV_run {P : Program} {T : Tab} (hT : T.OK P) (w : World) {op : BinOp} {t : TypeId} {a b v : Value} {p : Prop} (x y : Operand) (h : binV T op t a b = some (p, v)) (hp : p) :
    (do eqGuard op t x y a b; binOp op t a b : Sem Value).run P w = .ok v w := by
  unfold binV at h
  split at h
  · rename_i k a k' b
    have hg : (eqGuard op t x y (.int k a) (.int k' b)).run P w = .ok () w := by unfold eqGuard; split <;> rfl
    simp only [Sem.run_bind, hg, Result.andThen_ok]
    split at h
    · simp only [Option.some.injEq, Prod.mk.injEq] at h
      obtain ⟨rfl, rfl⟩ := h
      simp only [binOp, Op.shift]
      rw [if_neg (by omega)]; rfl
    · simp only [Option.some.injEq, Prod.mk.injEq] at h
      obtain ⟨rfl, rfl⟩ := h
      simp only [binOp, Op.shift]
      rw [if_neg (by omega)]; rfl
    · rename_i h1 h2
      cases hk : kindEq k k' with
      | false => rw [hk] at h; cases h
      | true =>
        rw [hk] at h
        obtain rfl := kindEq_eq hk
        simp only [cond_true] at h
        cases op <;> simp only [intOp, Option.some.injEq, Prod.mk.injEq, reduceCtorEq] at h <;> (obtain ⟨rfl, rfl⟩ := h) <;> simp_all [binOp, Op.intArith, Op.intDiv, Op.intBits, Op.intCmp]
  · rename_i a b
    have hg : (eqGuard op t x y (.string a) (.string b)).run P w = .ok () w := by unfold eqGuard; split <;> rfl
    simp only [Sem.run_bind, hg, Result.andThen_ok]
    split at h <;> simp only [Option.some.injEq, Prod.mk.injEq, reduceCtorEq] at h <;> (obtain ⟨rfl, rfl⟩ := h) <;> simp [binOp, Op.stringOp]
    have h9 : IntKind.i64.max = 9223372036854775807 := by decide
    rw [h9] at hp; omega
  · rename_i a b
    have hg : (eqGuard op t x y (.bool a) (.bool b)).run P w = .ok () w := by unfold eqGuard; split <;> rfl
    simp only [Sem.run_bind, hg, Result.andThen_ok]
    split at h
    · rename_i i hi
      split at h
      · rename_i hk
        have hu := Tab.bool hT hi hk
        have he : (Op.equal t (.bool a) (.bool b)).run P w = .ok (a == b) w := run_equalIn_bool' (P := P) w 9999 t a b hu
        split at h <;> simp only [Option.some.injEq, Prod.mk.injEq, reduceCtorEq] at h <;> (obtain ⟨rfl, rfl⟩ := h)
        · show ((Op.equal t (.bool a) (.bool b) >>= fun r => pure (.bool r) : Sem Value).run P w = _)
          simp only [Sem.run_bind, he, Result.andThen_ok, Sem.run_pure]
        · show ((Op.equal t (.bool a) (.bool b) >>= fun r => pure (.bool (!r)) : Sem Value).run P w = _)
          simp only [Sem.run_bind, he, Result.andThen_ok, Sem.run_pure]
      · cases h
    · cases h
  · cases h
def binS (T : Tab) (q : EqT) (op : BinOp) (t : TypeId) (x y : SV) : Option (Prop × SV) :=
  match x, y with
  | .c (.one (.data (.lit a))), .c (.one (.data (.lit b))) => match binV T op t a b with
    | some (p, v) => some (p, .c (.one (.data (.lit v))))
    | none => none
  | .c (.agg xs), .c (.agg ys) =>
    match q t, vals xs, vals ys with
    | some ls, some us, some vs => match op with
      | .eql => some (fitL ls us = true ∧ fitL ls vs = true, .c (.one (.data (.lit (.bool (eqCells us vs))))))
      | .neq => some (fitL ls us = true ∧ fitL ls vs = true, .c (.one (.data (.lit (.bool (!eqCells us vs))))))
      | _ => none
    | _, _, _ => none
  | _, _ => none
theorem binS_run {P : Program} {T : Tab} (hT : T.OK P) {q : EqT} (hq : q.OK P) {γ : Nat → Option Value} {S : Nat → Prop} (w : World) {op : BinOp} {t : TypeId} {a b : Value} {sa sb sv : SV} {p : Prop} (x y : Operand)
    (h : binS T q op t sa sb = some (p, sv)) (hp : p) (ha : RV γ S w sa a) (hb : RV γ S w sb b) :
    ∃ v, (do eqGuard op t x y a b; binOp op t a b : Sem Value).run P w = .ok v w ∧ RV γ S w sv v := by
  unfold binS at h
  split at h
  · rename_i u v
    obtain rfl : a = u := SV.val_eq (x := .c (.one (.data (.lit u)))) rfl ha
    obtain rfl : b = v := SV.val_eq (x := .c (.one (.data (.lit v)))) rfl hb
    split at h
    · rename_i p' v' hv
      simp only [Option.some.injEq, Prod.mk.injEq] at h
      obtain ⟨rfl, rfl⟩ := h
      exact ⟨v', binV_run hT w x y hv hp, .data (.lit _)⟩
    · cases h
  · rename_i xs ys
    split at h
    · rename_i ls us vs hl hu hv
      obtain ⟨us', rfl, ha⟩ := ha
      obtain ⟨vs', rfl, hb⟩ := hb
      obtain rfl := vals_eq hu ha
      obtain rfl := vals_eq hv hb
      split at h
      · simp only [Option.some.injEq, Prod.mk.injEq] at h
        obtain ⟨rfl, rfl⟩ := h
        obtain ⟨h1, h2⟩ := hq t ls hl _ _ hp.1 hp.2 w .eql x y (.inl rfl)
        refine ⟨_, ?_, .data (.lit _)⟩
        simp [Sem.run_bind, h1, binOp, h2]
      · simp only [Option.some.injEq, Prod.mk.injEq] at h
        obtain ⟨rfl, rfl⟩ := h
        obtain ⟨h1, h2⟩ := hq t ls hl _ _ hp.1 hp.2 w .neq x y (.inr rfl)
        refine ⟨_, ?_, .data (.lit _)⟩
        simp [Sem.run_bind, h1, binOp, h2]
      · cases h
    · cases h
  · cases h

/-! ### The value operations -/
/-- What a pointer's place asks for. -/
def St.side (s : St) : D → Prop
  | .eptr id sz i j => match lk s.h id with
    | some (.row _ sz' rs) => sz = sz' ∧ i < rs.length ∧ j ≤ sz
    | _ => False
  | _ => True
theorem St.side_of {s : St} {d : D} (h : s.side d) : ∀ id sz i j, d = .eptr id sz i j → ∃ e rs, lk s.h id = some (.row e sz rs) ∧ i < rs.length ∧ j ≤ sz := by
  rintro id sz i j rfl
  simp only [St.side] at h
  split at h
  · rename_i e sz' rs hl
    obtain ⟨rfl, h1, h2⟩ := h
    exact ⟨_, _, hl, h1, h2⟩
  · exact h.elim
def one (d : D) : SV := .c (.one d)
def litS (v : Value) : SV := .c (.one (.data (.lit v)))
/-- A part of a struct's cells. -/
def partS (i : TI) (cs : List D) (off : Nat) : Prop × SV :=
  bif i.k.agg then (Nat.ble (off + i.sz) cs.length = true, .c (.agg ((cs.drop off).take i.sz))) else (Nat.ble (off + 1) cs.length = true, .c (.one ((cs.drop off).headD .any)))
def isPtr : D → Bool
  | .ref _ _ | .eptr _ _ _ _ | .rptr _ | .clo _ _ => true
  | _ => false
def boxRef (s : St) : Option SV → Option Nat
  | some (.c (.one (.ref id off))) => match off, lk s.h id with
    | 0, some (.box _ _) => some id
    | _, _ => none
  | _ => none
def refIds (s : St) : List Operand → Option (List Nat)
  | [] => some []
  | x :: r => match boxRef s (s.op x), refIds s r with
    | some id, some ids => some (id :: ids)
    | _, _ => none
def fieldsOf (T : Tab) (t : TypeId) (f : Nat) : Option (Nat × TI) :=
  match T t with
  | some i => match i.k with
    | .strct fs => match fs[f]? with
      | some (off, u) => match T u with
        | some j => some (off, j)
        | none => none
      | none => none
    | _ => none
  | none => none
/-- All that a slice's bounds say: low, high. -/
def bnd (s : St) (o : Option Operand) (d : Int) : Option Int :=
  match o with
  | none => some d
  | some x => match s.op x with
    | some (.c (.one (.data (.lit (.int _ n))))) => some n
    | _ => none
def findE {α : Type} : List (Int × α) → Int → Option α
  | [], _ => none
  | (k, v) :: r, d => if k = d then some v else findE r d

def vop (T : Tab) (q : EqT) (s : St) (o : Oper) : Option (Prop × SV) :=
  match o.op with
  | .move x => match s.op x with
    | some v => some (True, v)
    | none => none
  | .assign x => match s.op x with
    | some v => some (True, v)
    | none => none
  | .pick c a b => match s.op c with
    | some (.c (.one (.data (.lit (.bool t))))) => match t with
      | true => match s.op a with
        | some v => some (True, v)
        | none => none
      | false => match s.op b with
        | some v => some (True, v)
        | none => none
    | _ => none
  | .load t a => match T t, s.op a with
    | some i, some (.c (.one d)) => match s.cells d with
      | some cs => some (s.side d ∧ (partS i cs 0).1, (partS i cs 0).2)
      | none => none
    | _, _ => none
  | .nilCheck x => match s.op x with
    | some (.c (.one d)) => bif isPtr d then some (True, one d) else none
    | _ => none
  | .binOp op t x y _ => match s.op x, s.op y with
    | some a, some b => binS T q op t a b
    | _, _ => none
  | .unOp op _ x => match op, s.op x with
    | .not, some (.c (.one (.data (.lit (.bool b))))) => some (True, litS (.bool !b))
    | .neg, some (.c (.one (.data (.lit (.int k n))))) => some (True, litS (.int k (k.wrap (0 - n))))
    | _, _ => none
  | .convert a b x => match T a, T b, s.op x with
    | some _, some j, some (.c (.one (.data (.lit v)))) => match j.k, v with
      | .int k, .int _ n => some (True, litS (.int k (k.wrap n)))
      | .str, .string z => some (True, litS (.string z))
      | _, _ => none
    | _, _, _ => none
  | .makeInterface t x => match T t, s.op x with
    | some i, some (.c (.one (.data d))) => match i.k with
      | .iface => none
      | _ => some (True, one (.ifc t false [d]))
    | _, _ => none
  | .makeFunc (.func f) first caps => match first.toList, refIds s caps.toList with
    | [], some ids => some (True, one (.clo f ids))
    | _, _ => none
  | .slice t x lo hi none => match T t, s.op x with
    | some i, some (.c (.one (.data (.lit (.string z))))) => match i.k, bnd s lo 0, bnd s hi z.size with
      | .str, some l, some h => some (0 ≤ l ∧ l ≤ h ∧ h ≤ z.size, litS (.string (z.extract l.toNat h.toNat)))
      | _, _, _ => none
    | some i, some (.c (.one (.data (.rows sz n f)))) => match i.k, bnd s lo 0, bnd s hi n with
      | .slice e, some l, some h => match T e with
        | some j => some (0 ≤ l ∧ l ≤ h ∧ h ≤ n ∧ j.sz = sz, one (.data (.rows sz (h.toNat - l.toNat) (fun k => f (l.toNat + k)))))
        | none => none
      | _, _, _ => none
    | _, _ => none
  | .fieldAddr t x f => match fieldsOf T t f, s.op x with
    | some (off, j), some (.c (.one d)) => match d with
      | .ref id o => some (Nat.blt 0 j.sz = true, one (.ref id (o + off)))
      | .eptr id sz i o => some (Nat.blt 0 j.sz = true, one (.eptr id sz i (o + off)))
      | .rptr cs => some (Nat.blt 0 j.sz = true ∧ Nat.ble off cs.length = true, one (.rptr (cs.drop off)))
      | _ => none
    | _, _ => none
  | .field t x f => match fieldsOf T t f, s.op x with
    | some (off, j), some (.c (.agg cs)) => some (partS j cs off)
    | _, _ => none
  | .indexAddr t x y => match T t, s.op x, s.op y with
    | some i, some (.c (.one d)), some (.c (.one (.data (.lit (.int _ z))))) => match i.k with
      | .slice e => match T e, d with
        | some j, .data (.rows sz n f) => some (0 ≤ z ∧ z < n ∧ j.sz = sz, one (.rptr (f z.toNat)))
        | some j, .base id => match lk s.h id with
          | some (.row _ sz rs) => some (0 ≤ z ∧ z < rs.length ∧ j.sz = sz, one (.eptr id sz z.toNat 0))
          | _ => none
        | _, _ => none
      | .array n e => match T e, d with
        | some j, .ref id off => some (0 ≤ z ∧ z < n, one (.ref id (off + z.toNat * j.sz)))
        | some j, .rptr cs => some (0 ≤ z ∧ z < n ∧ Nat.ble (z.toNat * j.sz) cs.length = true, one (.rptr (cs.drop (z.toNat * j.sz))))
        | _, _ => none
      | _ => none
    | _, _, _ => none
  | .index t x y => match T t, s.op x, s.op y with
    | some i, some (.c (.one (.data (.lit (.string b))))), some (.c (.one (.data (.lit (.int _ z))))) => match i.k with
      | .str => some (0 ≤ z ∧ z < b.size, litS (.int .u8 ((b[z.toNat]?.getD 0).toNat)))
      | _ => none
    | some i, some (.c (.agg cs)), some (.c (.one (.data (.lit (.int _ z))))) => match i.k with
      | .array n e => match T e with
        | some j => some (0 ≤ z ∧ z < n ∧ (partS j cs (z.toNat * j.sz)).1, (partS j cs (z.toNat * j.sz)).2)
        | none => none
      | _ => none
    | _, _, _ => none
  | .extract x n => match s.op x with
    | some (.tup l) => match l[n]? with
      | some x => some (True, .c x)
      | none => none
    | _ => none
  | .lookup t x y ok => match T t, s.op x, s.op y with
    | some i, some (.c (.one (.base id))), some (.c (.one (.data (.lit (.int kk z))))) => match kk, i.k, lk s.h id with
      | .i64, .map kt vt, some ob => match T kt, T vt with
        | some ik, some iv => match ik.k, ob with
          | .int .i64, .mi k es => match iv.zero with
            | some (.int k' 0) => bif kindEq k k' then some (True, bif ok then .tup [.one (.data (.lit (.int k ((findE es z).getD 0)))), .one (.data (.lit (.bool (findE es z).isSome)))] else litS (.int k ((findE es z).getD 0))) else none
            | _ => none
          | .int .i64, .mb es => match iv.zero with
            | some (.bool false) => some (True, bif ok then .tup [.one (.data (.lit (.bool ((findE es z).getD false)))), .one (.data (.lit (.bool (findE es z).isSome)))] else litS (.bool ((findE es z).getD false)))
            | _ => none
          | .int .i64, .mp es => match iv.zero with
            | some zv => match cst zv with
              | .c zc => some (True, bif ok then .tup [(findE es z).getD zc, .one (.data (.lit (.bool (findE es z).isSome)))] else .c ((findE es z).getD zc))
              | _ => none
            | _ => none
          | _, _ => none
        | _, _ => none
      | _, _, _ => none
    | _, _, _ => none
  | .call c => match c.callee, c.args.toList, c.argTypes.toList with
    | .builtin .len, [x], [t] => match T t, s.op x with
      | some i, some (.c (.one (.data (.lit (.string z))))) => match i.k with
        | .str => some (True, litS (.int .i64 z.size))
        | _ => none
      | some i, some (.c (.one (.data (.lit (.slice _ n _))))) => match i.k with
        | .slice _ => some (True, litS (.int .i64 n))
        | _ => none
      | some i, some (.c (.one (.data (.rows _ n _)))) => match i.k with
        | .slice _ => some (True, litS (.int .i64 n))
        | _ => none
      | some i, some (.c (.one (.base id))) => match i.k, lk s.h id with
        | .slice _, some (.row _ _ rs) => some (True, litS (.int .i64 rs.length))
        | .map _ _, some (.mp es) => some (True, litS (.int .i64 es.length))
        | .map _ _, some (.mi _ es) => some (True, litS (.int .i64 es.length))
        | .map _ _, some (.mb es) => some (True, litS (.int .i64 es.length))
        | _, _ => none
      | _, _ => none
    | _, _, _ => none
  | _ => none
end Go.Fw
/- The framework, part 4: the value operations are as the evaluator says. -/
set_option linter.unusedVariables false
set_option linter.unusedSimpArgs false
namespace Go.Fw
open Go

theorem RTs.of_get {S : Nat → Prop} {w : World} : ∀ {ts : List T} {vs : List Value}, ts.length = vs.length → (∀ (j : Nat) (d : T) (v : Value), ts[j]? = some d → vs[j]? = some v → RT S w d v) → RTs S w ts vs
  | [], [], _, _ => trivial
  | t :: ts, v :: vs, hl, h => ⟨h 0 t v rfl rfl, RTs.of_get (by simpa using hl) (fun j d u h1 h2 => h (j + 1) d u (by simpa using h1) (by simpa using h2))⟩
  | [], _ :: _, hl, _ => by simp at hl
  | _ :: _, [], hl, _ => by simp at hl
theorem RCs.get {γ : Nat → Option Value} {S : Nat → Prop} {w : World} : ∀ {ts : List Cv} {vs : List Value}, RCs γ S w ts vs → ∀ {j : Nat} {d : Cv}, ts[j]? = some d → ∃ v, vs[j]? = some v ∧ RC γ S w d v
  | [], [], _, j, d, hd => by simp at hd
  | _ :: _, v :: _, ⟨h, r⟩, 0, d, hd => by
    simp at hd; subst hd; exact ⟨v, rfl, h⟩
  | _ :: _, _ :: _, ⟨h, r⟩, j + 1, d, hd => by simpa using RCs.get r (j := j) (by simpa using hd)
theorem REs.length {γ : Nat → Option Value} {S : Nat → Prop} {w : World} : ∀ {ts : List (Int × Cv)} {vs : List MapEntry}, REs γ S w ts vs → ts.length = vs.length
  | [], [], _ => rfl
  | (_, _) :: _, _ :: _, ⟨_, _, r⟩ => by simp [REs.length r]
theorem REs.find {γ : Nat → Option Value} {S : Nat → Prop} {w : World} (z : Int) (kk : IntKind) : ∀ {ts : List (Int × Cv)} {es : List MapEntry} (i : Nat), REs γ S w ts es →
    (findE ts z = none ∧ Instr.findNow (.int kk) (.int .i64 z) es i = some none) ∨
    ∃ c j v, findE ts z = some c ∧ Instr.findNow (.int kk) (.int .i64 z) es i = some (some (i + j, v)) ∧ (es[j]?).map (·.val) = some v ∧ (es[j]?).map (·.key) = some (.int .i64 z) ∧ RC γ S w c v
  | [], [], i, _ => .inl ⟨rfl, rfl⟩
  | (k, c) :: r, e :: es, i, ⟨hk, hc, hr⟩ => by
    simp only [findE, Instr.findNow, hk, Instr.sameNow, if_true]
    by_cases h : k = z
    · subst h
      refine .inr ⟨c, 0, e.val, by simp, by simp, rfl, by simp [hk], hc⟩
    · have h' : (z == k) = false := by simp; exact fun he => h he.symm
      rw [if_neg h, h']
      simp only
      rcases REs.find z kk (i + 1) hr with ⟨h1, h2⟩ | ⟨c', j, v, h1, h2, h3, h4, h5⟩
      · exact .inl ⟨h1, h2⟩
      · exact .inr ⟨c', j + 1, v, h1, by rw [h2]; congr 3; omega, by simpa using h3, by simpa using h4, h5⟩
theorem find_cvI (k : IntKind) (z : Int) : ∀ es : List (Int × Int), findE (cvI k es) z = (findE es z).map fun x => .one (.data (.lit (.int k x)))
  | [] => rfl
  | (a, b) :: r => by
    have := find_cvI k z r
    simp only [cvI, List.map_cons, findE] at this ⊢
    split
    · rfl
    · exact this
theorem find_cvB (z : Int) : ∀ es : List (Int × Bool), findE (cvB es) z = (findE es z).map fun x => .one (.data (.lit (.bool x)))
  | [] => rfl
  | (a, b) :: r => by
    have := find_cvB z r
    simp only [cvB, List.map_cons, findE] at this ⊢
    split
    · rfl
    · exact this
theorem cvI_length (k : IntKind) (es : List (Int × Int)) : (cvI k es).length = es.length := by simp [cvI]
theorem cvB_length (es : List (Int × Bool)) : (cvB es).length = es.length := by simp [cvB]
/-- A look-up of an int. -/
theorem lookup_run {P : Program} {T : Tab} (hT : T.OK P) {γ : Nat → Option Value} {S : Nat → Prop} {w : World} {t kt vt : TypeId} {i ik iv : TI} (hi : T t = some i) (hk : i.k = .map kt vt) (hik : T kt = some ik) (hkk : ik.k = .int .i64) (hiv : T vt = some iv)
    {zv : Value} (hz : iv.zero = some zv) {r : Nat} {en : List MapEntry} {clock : Nat} (hh : w.heap[r]? = some (.map en.toArray clock)) {es : List (Int × Cv)} (hr : REs γ S w es en) (z : Int) (ok : Bool) :
    ∃ v b, (Instr.lookup t (.map (some r)) (.int .i64 z) ok).run P w = .ok (if ok then .tuple #[v, .bool b] else v) w ∧ ((findE es z = none ∧ v = zv ∧ b = false) ∨ ∃ c, findE es z = some c ∧ RC γ S w c v ∧ b = true) := by
  have hu := Tab.map hT hi hk
  have huk := Tab.int hT hik hkk
  have hck : ∀ e, (Instr.checkKey e 10000 kt (.int .i64 z)).run P w = .ok () w := by
    intro e
    show (Instr.checkKey e (9999 + 1) kt (.int .i64 z)).run P w = .ok () w
    rw [Instr.checkKey]
    simp only [Sem.run_bind, run_underlying huk, Result.andThen_ok, Sem.run_pure]
  have hg : (getObj r).run P w = .ok (.map en.toArray clock) w := by simp [getObj, Sem.run, hh]
  rcases hr.find z .i64 0 with ⟨h1, h2⟩ | ⟨c, j, v, h1, h2, h3, h4, h5⟩
  · refine ⟨zv, false, ?_, .inl ⟨h1, rfl, rfl⟩⟩
    simp only [Instr.lookup, Sem.run_bind, run_underlying hu, Result.andThen_ok, hg, Sem.run_pure, hck, Instr.findKey, run_underlying huk, List.toList_toArray, h2, Tab.zero hT w hiv hz]
  · refine ⟨v, true, ?_, .inr ⟨c, h1, h5, rfl⟩⟩
    simp only [Instr.lookup, Sem.run_bind, run_underlying hu, Result.andThen_ok, hg, Sem.run_pure, hck, Instr.findKey, run_underlying huk, List.toList_toArray, h2]

section
variable {P : Program} {T : Tab} (hT : T.OK P) {γ : Nat → Option Value} {S : Nat → Prop} {w : World}
include hT
theorem partS_run {t : TypeId} {i : TI} (hi : T t = some i) {cs : List D} {vs : List Value} {off : Nat} (hr : RDs γ S w cs vs) (hp : (partS i cs off).1) :
    ∃ u, (part t vs.toArray off).run P w = .ok u w ∧ RV γ S w (partS i cs off).2 u := by
  have hl := hr.length
  unfold partS at hp ⊢
  cases hk : i.k.agg with
  | true =>
    rw [hk] at hp
    simp only [cond_true] at hp
    have hle := Nat.le_of_ble_eq_true hp
    refine ⟨.agg ((vs.drop off).take i.sz).toArray, ?_, ⟨_, rfl, (hr.drop off).take _⟩⟩
    simp only [part, Sem.run_bind, Tab.isAgg hT w hi, hk, Result.andThen_ok, if_true, Tab.sizeOf hT w hi, Sem.run_pure]
    congr 2
    apply Array.ext'
    simp [List.take_drop]
  | false =>
    rw [hk] at hp
    simp only [cond_false] at hp
    have hle := Nat.le_of_ble_eq_true hp
    have hlt : off < vs.length := by omega
    have hlt' : off < cs.length := by omega
    refine ⟨vs[off], ?_, ?_⟩
    · simp only [part, Sem.run_bind, Tab.isAgg hT w hi, hk, Result.andThen_ok]
      simp [hlt]
    · have h1 : ((cs.drop off).headD .any) = cs[off] := by rw [List.drop_eq_getElem_cons hlt']; rfl
      rw [cond_false]
      show RD γ S w ((cs.drop off).headD .any) vs[off]
      rw [h1]
      exact hr.get (List.getElem?_eq_getElem hlt') (List.getElem?_eq_getElem hlt)
theorem loadS_run {t : TypeId} {i : TI} (hi : T t = some i) {cs : List D} {vs : List Value} {b o : Nat} (hc : ∀ j v, vs[j]? = some v → w.cell? ⟨b, o + j, none⟩ = some v) (hr : RDs γ S w cs vs) (hp : (partS i cs 0).1) :
    ∃ u, (loadVar t ⟨b, o, none⟩).run P w = .ok u w ∧ RV γ S w (partS i cs 0).2 u := by
  have hl := hr.length
  unfold partS at hp ⊢
  cases hk : i.k.agg with
  | true =>
    rw [hk] at hp
    simp only [cond_true, Nat.zero_add] at hp
    have hle := Nat.le_of_ble_eq_true hp
    refine ⟨.agg (vs.take i.sz).toArray, ?_, ⟨_, rfl, by simpa using hr.take i.sz⟩⟩
    have h1 := loadCells_list (P := P) w b o (vs.take i.sz) (fun j v hj => hc j v (by
      rw [List.getElem?_take] at hj; split at hj
      · exact hj
      · cases hj))
    rw [List.length_take, Nat.min_eq_left (by omega)] at h1
    simp only [loadVar, Sem.run_bind, Tab.isAgg hT w hi, hk, Result.andThen_ok, if_true, Tab.sizeOf hT w hi, h1, Sem.run_pure]
  | false =>
    rw [hk] at hp
    simp only [cond_false, Nat.zero_add] at hp
    have hle := Nat.le_of_ble_eq_true hp
    cases vs with
    | nil => rw [hl] at hle; simp at hle
    | cons v vs =>
      cases cs with
      | nil => simp at hl
      | cons d cs =>
        refine ⟨v, ?_, hr.1⟩
        have := hc 0 v rfl
        simp only [Nat.add_zero] at this
        simp [loadVar, Sem.run_bind, Tab.isAgg hT w hi, hk, this]
theorem fieldsOf_run {t : TypeId} {f off : Nat} {j : TI} (h : fieldsOf T t f = some (off, j)) : ∃ (fl : Array Field) (fd : Field) , P.underlying t = some (.struct fl) ∧ fl[f]? = some fd ∧ fd.offset = off ∧ T fd.type = some j := by
  unfold fieldsOf at h
  split at h
  · rename_i i hi
    split at h
    · rename_i fs hk
      split at h
      · rename_i off' u hf
        split at h
        · rename_i j' hj
          simp only [Option.some.injEq, Prod.mk.injEq] at h
          obtain ⟨rfl, rfl⟩ := h
          obtain ⟨fl, h1, h2⟩ := Tab.strct hT hi hk
          have h3 : (fl.toList.map fun f => (f.offset, f.type))[f]? = some (off', u) := by rw [h2]; exact hf
          rw [List.getElem?_map] at h3
          cases h4 : fl.toList[f]? with
          | none => rw [h4] at h3; cases h3
          | some fd =>
            rw [h4] at h3; simp only [Option.map_some, Option.some.injEq, Prod.mk.injEq] at h3
            exact ⟨fl, fd, h1, by simpa using h4, h3.1, by rw [h3.2]; exact hj⟩
        · cases h
      · cases h
    · cases h
  · cases h
end
theorem refIds_eq {γ : Nat → Option Value} {S : Nat → Prop} {w : World} {s : St} {a : Act} {e : Env} (hR : Rep e γ S s a w) :
    ∀ {xs : List Operand} {ids : List Nat}, refIds s xs = some ids → (xs.map a.eval).map some = ids.map γ
  | [], ids, h => by simp [refIds] at h; subst h; rfl
  | x :: xs, ids, h => by
    unfold refIds at h
    split at h
    · rename_i id ids' h1 h2
      simp only [Option.some.injEq] at h; subst h
      simp only [List.map_cons, refIds_eq hR h2, List.cons.injEq, and_true]
      unfold boxRef at h1
      split at h1
      · rename_i id' off hx
        split at h1
        · rename_i t cs hl
          simp only [Option.some.injEq] at h1; subst h1
          have hv : RD γ S w (.ref id' 0) (a.eval x) := hR.op hx
          have ho := hR.heap.obj _ _ (lk_mem hl)
          cases ho with
          | box hg hh hr hS =>
            generalize a.eval x = u at hv ⊢
            rw [hg]
            cases hv with
            | ref hb => simp only [blk, hg, vblk, Option.bind_some, Option.some.injEq] at hb; rw [hb]
        · cases h1
      · cases h1
    · cases h

section
variable {P : Program} {T : Tab} (hT : T.OK P) {q : EqT} (hq : q.OK P) {e : Env} {γ : Nat → Option Value} {S : Nat → Prop} {s : St} {a : Act} {w : World} (hR : Rep e γ S s a w) {o : Oper} {p : Prop} {v : SV}
include hR
theorem bnd_run {x : Option Operand} {d z : Int} (h : bnd s x d = some z) : (x = none ∧ z = d) ∨ ∃ y k, x = some y ∧ a.eval y = .int k z := by
  unfold bnd at h
  split at h
  · simp only [Option.some.injEq] at h; exact .inl ⟨rfl, h.symm⟩
  · rename_i y
    split at h
    · rename_i k n hy
      simp only [Option.some.injEq] at h; subst h
      exact .inr ⟨y, k, rfl, SV.val_eq (x := .c (.one (.data (.lit (.int k n))))) rfl (hR.op hy)⟩
    · cases h
/-- The bounds of a cut without a third index. -/
theorem bounds_run {lo hi : Option Operand} {n cap : Nat} {l h : Int} (isS : Bool) (h1 : bnd s lo 0 = some l) (h2 : bnd s hi n = some h) (h0 : 0 ≤ l) (hl : l ≤ h) (hh : h ≤ n) (hn : n ≤ cap) :
    (Instr.sliceBounds isS n cap (lo.map a.eval) (hi.map a.eval) none).run P w = .ok (l.toNat, h.toNat, cap) w := by
  have hB : ∀ (k : IntKind) (i : Int) (y : Nat) (c : BoundsCode), 0 ≤ i → i ≤ y → (Instr.sliceBound (.int k i) y c).run P w = .ok i.toNat w := by
    intro k i y c h3 h4
    simp [Instr.sliceBound, asIntOf, h3, h4]
  rcases bnd_run hR h1 with ⟨rfl, rfl⟩ | ⟨y, k, rfl, hy⟩ <;> rcases bnd_run hR h2 with ⟨rfl, rfl⟩ | ⟨z, k', rfl, hz⟩
  · simp [Instr.sliceBounds]
  · simp only [Instr.sliceBounds, Option.map_none, Option.map_some, hz, Sem.run_bind, Sem.run_pure, Result.andThen_ok, hB k' h cap _ (by omega) (by omega)]
    simp
  · simp only [Instr.sliceBounds, Option.map_none, Option.map_some, hy, Sem.run_bind, Sem.run_pure, Result.andThen_ok, hB k l n _ h0 (by omega)]
    simp
  · simp only [Instr.sliceBounds, Option.map_none, Option.map_some, hy, hz, Sem.run_bind, Sem.run_pure, Result.andThen_ok, hB k' h cap _ (by omega) (by omega), hB k l h.toNat _ h0 (by omega)]
end
end Go.Fw
/- The framework, part 5: each value operation's run. -/
set_option linter.unusedVariables false
set_option linter.unusedSimpArgs false
namespace Go.Fw
open Go

section
variable {P : Program} {T : Tab} (hT : T.OK P) {q : EqT} (hq : q.OK P) {e : Env} {γ : Nat → Option Value} {S : Nat → Prop} {s : St} {a : Act} {w : World} (hR : Rep e γ S s a w) {o : Oper} {p : Prop} {v : SV}

theorem isPtr_run {d : D} {u : Value} (h : isPtr d = true) (hu : RD γ S w d u) : (∃ x, u = .pointer (some x)) ∨ ∃ f vs, u = .func (.func f) #[] vs := by
  cases hu with
  | ref | eptr | rptr => exact .inl ⟨_, rfl⟩
  | clo => exact .inr ⟨_, _, rfl⟩
  | _ => simp [isPtr] at h
theorem litS_run {x : SV} {u z : Value} (hx : x = litS z) (h : RV γ S w x u) : u = z := by subst hx; exact SV.val_eq rfl h

theorem len_run {x : Operand} {t : TypeId} {cc : Call} (hcall : o.op = .call cc) (h1 : cc.callee = .builtin .len) (h2 : cc.args.toList = [x]) (h3 : cc.argTypes.toList = [t]) {n : Int} 
    (h : (Builtin.len_ #[t] o.type #[a.eval x]).run P w = .ok (.int .i64 n) w) : (execOp a.eval o).run P w = .ok (.value (.int .i64 n)) w := by
  obtain ⟨callee, args, argTypes⟩ := cc
  simp only at h1 h2 h3
  subst h1
  obtain rfl : args = #[x] := by cases args; simp at h2; rw [h2]
  obtain rfl : argTypes = #[t] := by cases argTypes; simp at h3; rw [h3]
  have h' := h
  simp only [execOp, hcall, resolve, Sem.run_bind, Sem.run_pure, Result.andThen_ok, invoke, builtin, List.map_toArray, List.map_cons, List.map_nil, h']

include hT hq hR in
theorem vop_run (h : vop T q s o = some (p, v)) (hp : p) : ∃ u, (execOp a.eval o).run P w = .ok (.value u) w ∧ RV γ S w v u := by
  unfold vop at h
  split at h
  · -- move
    rename_i x ho
    split at h
    · rename_i u hx
      simp only [Option.some.injEq, Prod.mk.injEq] at h; obtain ⟨rfl, rfl⟩ := h
      exact ⟨_, by simp [execOp, ho], hR.op hx⟩
    · cases h
  · -- assign
    rename_i x ho
    split at h
    · rename_i u hx
      simp only [Option.some.injEq, Prod.mk.injEq] at h; obtain ⟨rfl, rfl⟩ := h
      exact ⟨_, by simp [execOp, ho], hR.op hx⟩
    · cases h
  · -- pick
    rename_i c x y ho
    split at h
    · rename_i t hc
      have hc' := litS_run rfl (hR.op hc)
      split at h
      · split at h
        · rename_i u hx
          simp only [Option.some.injEq, Prod.mk.injEq] at h; obtain ⟨rfl, rfl⟩ := h
          exact ⟨_, by simp [execOp, ho, hc', asBool], hR.op hx⟩
        · cases h
      · split at h
        · rename_i u hx
          simp only [Option.some.injEq, Prod.mk.injEq] at h; obtain ⟨rfl, rfl⟩ := h
          exact ⟨_, by simp [execOp, ho, hc', asBool], hR.op hx⟩
        · cases h
    · cases h
  · -- load
    rename_i t x ho
    split at h
    · rename_i i d hi hx
      split at h
      · rename_i cs hcs
        simp only [Option.some.injEq, Prod.mk.injEq] at h; obtain ⟨rfl, rfl⟩ := h
        obtain ⟨b, off, vs, hv, hc, hr⟩ := hR.cells hcs (hR.op hx) (St.side_of hp.1)
        obtain ⟨u, h1, h2⟩ := loadS_run hT hi hc hr hp.2
        refine ⟨u, ?_, h2⟩
        simp only [execOp, ho, hv, Instr.loadAt, Instr.sureAddr, Sem.run_bind, Sem.run_pure, Result.andThen_ok, h1]
      · cases h
    · cases h
  · -- nilCheck
    rename_i x ho
    split at h
    · rename_i d hx
      cases hd : isPtr d with
      | false => rw [hd] at h; cases h
      | true =>
        rw [hd] at h
        simp only [cond_true, Option.some.injEq, Prod.mk.injEq] at h; obtain ⟨rfl, rfl⟩ := h
        have hv := hR.op hx
        refine ⟨_, ?_, hv⟩
        rcases isPtr_run hd hv with ⟨y, hy⟩ | ⟨f, vs, hy⟩ <;> simp [execOp, ho, hy]
    · cases h
  · -- binOp
    rename_i op t x y yt ho
    split at h
    · rename_i sa sb hx hy
      obtain ⟨u, h1, h2⟩ := binS_run hT hq w x y h hp (hR.op hx) (hR.op hy)
      refine ⟨u, ?_, h2⟩
      simp only [execOp, ho, Sem.run_bind] at h1 ⊢
      rw [h1]; rfl
    · cases h
  · -- unOp
    rename_i op t x ho
    split at h
    · rename_i b hx
      simp only [Option.some.injEq, Prod.mk.injEq] at h; obtain ⟨rfl, rfl⟩ := h
      have hx' := litS_run rfl (hR.op hx)
      exact ⟨_, by simp [execOp, ho, hx', Op.unary], .data (.lit _)⟩
    · rename_i k n hx
      simp only [Option.some.injEq, Prod.mk.injEq] at h; obtain ⟨rfl, rfl⟩ := h
      have hx' := litS_run rfl (hR.op hx)
      exact ⟨_, by simp only [execOp, ho, hx', Op.unary, Op.intArith, Sem.run_bind, Sem.run_pure, Result.andThen_ok], .data (.lit _)⟩
    · cases h
  · -- convert
    rename_i ta tb x ho
    split at h
    · rename_i i j u hi hj hx
      have hx' := litS_run rfl (hR.op hx)
      obtain ⟨d, hd, _⟩ := Tab.under hT hi
      split at h
      · rename_i k k' n hk
        simp only [Option.some.injEq, Prod.mk.injEq] at h; obtain ⟨rfl, rfl⟩ := h
        have hu := Tab.int hT hj hk
        exact ⟨_, by simp only [execOp, ho, hx', convert, Sem.run_bind, run_underlying hd, run_underlying hu, Result.andThen_ok, Conv.intToInt, Sem.run_pure], .data (.lit _)⟩
      · rename_i z hk
        simp only [Option.some.injEq, Prod.mk.injEq] at h; obtain ⟨rfl, rfl⟩ := h
        have hu := Tab.str hT hj hk
        refine ⟨_, ?_, .data (.lit _)⟩
        simp only [execOp, ho, hx', convert, Sem.run_bind, run_underlying hd, run_underlying hu, Result.andThen_ok]
        cases d <;> rfl
      · cases h
    · cases h
  · -- makeInterface
    rename_i t x ho
    split at h
    · rename_i i d hi hx
      split at h
      · cases h
      · rename_i hk
        simp only [Option.some.injEq, Prod.mk.injEq] at h; obtain ⟨rfl, rfl⟩ := h
        obtain ⟨dd, hd, hkd⟩ := Tab.under hT hi
        have hv : RD γ S w (.data d) (a.eval x) := hR.op hx
        generalize hu : a.eval x = u at hv
        cases hv with
        | data hv =>
          refine ⟨.iface t u, ?_, .ifc1 hv⟩
          have hni : ∀ ms, dd ≠ .interface ms := by
            rintro ms rfl
            exact hk hkd.symm
          simp only [execOp, ho, hu, Instr.makeInterface, Sem.run_bind, run_underlying hd, Result.andThen_ok]
          cases dd <;> first | rfl | exact absurd rfl (hni _)
    · cases h
  · -- makeFunc
    rename_i f first caps ho
    split at h
    · rename_i ids h1 h2
      simp only [Option.some.injEq, Prod.mk.injEq] at h; obtain ⟨rfl, rfl⟩ := h
      have h3 := refIds_eq hR h2
      obtain rfl : first = #[] := by simpa using h1
      refine ⟨_, ?_, .clo (vs := caps.toList.map a.eval) h3⟩
      simp only [execOp, ho, Instr.makeFunc, Sem.run_bind, Sem.run_pure, Result.andThen_ok]
      have h4 : caps.map a.eval = (caps.toList.map a.eval).toArray := by apply Array.ext'; simp
      simp [h4]
    · cases h
  · -- slice
    rename_i t x lo hi ho
    split at h
    · rename_i i z hti hx
      have hx' := litS_run rfl (hR.op hx)
      split at h
      · rename_i l hh hk hl hh'
        simp only [Option.some.injEq, Prod.mk.injEq] at h; obtain ⟨rfl, rfl⟩ := h
        have hu := Tab.str hT hti hk
        have hb := bounds_run (P := P) hR false hl hh' hp.1 hp.2.1 hp.2.2 (Nat.le_refl _)
        refine ⟨_, ?_, .data (.lit _)⟩
        simp only [execOp, ho, hx', Instr.sliceAt, Instr.slice, Sem.run_bind, run_underlying hu, Result.andThen_ok, Option.map_none, Option.isSome_none, Bool.false_eq_true, if_false, hb, Sem.run_pure]
      · cases h
    · rename_i i sz n f hti hx
      split at h
      · rename_i el l hh hk hl hh'
        split at h
        · rename_i j hj
          simp only [Option.some.injEq, Prod.mk.injEq] at h; obtain ⟨rfl, rfl⟩ := h
          have hu := Tab.slice hT hti hk
          have hv : RD γ S w (.data (.rows sz n f)) (a.eval x) := hR.op hx
          generalize hux : a.eval x = u at hv
          cases hv with
          | data hv =>
            cases hv with
            | rows _ _ _ A cap b off V hn hb hA hlen hc hr =>
              obtain ⟨h0, h1, h2, h3⟩ := hp
              have hbd := bounds_run (P := P) hR true hl hh' h0 h1 h2 hn
              refine ⟨.slice (if cap = l.toNat then A else A.map (·.add (l.toNat * j.sz))) (hh.toNat - l.toNat) (cap - l.toNat), ?_, ?_⟩
              · simp only [execOp, ho, hux, Instr.sliceAt, Instr.slice, Sem.run_bind, run_underlying hu, Result.andThen_ok, Option.map_none, hbd, Tab.sizeOf hT w hj, Sem.run_pure]
              · refine .data ?_
                rw [h3]
                refine .rows sz (hh.toNat - l.toNat) _ _ (cap - l.toNat) b (off + l.toNat * sz) (fun i k => V (l.toNat + i) k) (by omega) (by omega) (fun hpos => ?_) (fun i hi => hlen _ (by omega)) (fun i k hi hk => ?_) (fun i k d hi hd => hr _ _ _ (by omega) hd)
                · obtain ⟨rfl, hS⟩ := hA (by omega)
                  refine ⟨?_, hS⟩
                  rw [if_neg (by omega)]
                  simp [add_none]
                · have := hc (l.toNat + i) k (by omega) hk
                  rw [Nat.add_mul] at this
                  rw [← this]
                  congr 2
                  omega
        · cases h
      · cases h
    · cases h
  · -- fieldAddr
    rename_i t x f ho
    split at h
    · rename_i off j d hf hx
      obtain ⟨fl, fd, hu, hfd, hoff, hj⟩ := fieldsOf_run hT hf
      have hrun : ∀ (b k : Nat), Nat.blt 0 j.sz = true → (Instr.fieldAt t (.pointer (some ⟨b, k, none⟩)) f).run P w = .ok (.pointer (some ⟨b, k + off, none⟩)) w := by
        intro b k hpos
        have hpos' : j.sz ≠ 0 := by have : 0 < j.sz := Nat.le_of_ble_eq_true hpos; omega
        simp only [Instr.fieldAt, Sem.run_bind, run_underlying hu, Result.andThen_ok, hfd, Instr.sureAddr, Sem.run_pure, fieldPlace, Tab.sizeOf hT w hj, if_neg hpos', hoff, add_none]
      split at h
      · rename_i id k
        simp only [Option.some.injEq, Prod.mk.injEq] at h; obtain ⟨rfl, rfl⟩ := h
        have hv : RD γ S w (.ref id k) (a.eval x) := hR.op hx
        generalize hux : a.eval x = u at hv
        cases hv with
        | ref hb => exact ⟨_, by simp only [execOp, ho, hux, Sem.run_bind, hrun _ _ hp, Result.andThen_ok, Sem.run_pure], .ref hb⟩
      · rename_i id sz i k
        simp only [Option.some.injEq, Prod.mk.injEq] at h; obtain ⟨rfl, rfl⟩ := h
        have hv : RD γ S w (.eptr id sz i k) (a.eval x) := hR.op hx
        generalize hux : a.eval x = u at hv
        cases hv with
        | eptr hb =>
          refine ⟨_, by simp only [execOp, ho, hux, Sem.run_bind, hrun _ _ hp, Result.andThen_ok, Sem.run_pure]; rfl, ?_⟩
          rw [Nat.add_assoc]; exact .eptr hb
      · rename_i cs
        simp only [Option.some.injEq, Prod.mk.injEq] at h; obtain ⟨rfl, rfl⟩ := h
        have hv : RD γ S w (.rptr cs) (a.eval x) := hR.op hx
        generalize hux : a.eval x = u at hv
        cases hv with
        | rptr hS hc hr =>
          rename_i b k vs
          refine ⟨_, by simp only [execOp, ho, hux, Sem.run_bind, hrun _ _ hp.1, Result.andThen_ok, Sem.run_pure]; rfl, .rptr hS (vs := vs.drop off) (fun i v hi => ?_) (hr.drop _)⟩
          rw [List.getElem?_drop] at hi
          rw [Nat.add_assoc]; exact hc _ _ hi
      · cases h
    · cases h
  · -- field
    rename_i t x f ho
    split at h
    · rename_i off j cs hf hx
      obtain ⟨fl, fd, hu, hfd, hoff, hj⟩ := fieldsOf_run hT hf
      simp only [Option.some.injEq, Prod.mk.injEq] at h
      obtain ⟨vs, hvs, hr⟩ : ∃ vs : List Value, a.eval x = .agg vs.toArray ∧ RDs γ S w cs vs := hR.op hx
      have hp' : (partS j cs off).1 := by have := congrArg Prod.fst h; simp only at this; rw [this]; exact hp
      obtain ⟨u, h1, h2⟩ := partS_run hT hj hr hp'
      refine ⟨u, ?_, by have := congrArg Prod.snd h; simp only at this; rw [← this]; exact h2⟩
      simp only [execOp, ho, hvs, Instr.field, Sem.run_bind, run_underlying hu, Result.andThen_ok, hfd, asAgg, Sem.run_pure, hoff, h1]
    · cases h
  · -- indexAddr
    rename_i t x y ho
    split at h
    · rename_i i d k z hi hx hy
      have hy' := litS_run rfl (hR.op hy)
      split at h
      · rename_i el hk
        have hu := Tab.slice hT hi hk
        split at h
        · rename_i j sz n f hj
          simp only [Option.some.injEq, Prod.mk.injEq] at h; obtain ⟨rfl, rfl⟩ := h
          obtain ⟨h0, h1, h2⟩ := hp
          have hv : RD γ S w (.data (.rows sz n f)) (a.eval x) := hR.op hx
          generalize hux : a.eval x = u at hv
          cases hv with
          | data hv =>
            cases hv with
            | rows _ _ _ A cap b off V hn hb hA hlen hc hr =>
              obtain ⟨rfl, hS⟩ := hA (by omega)
              refine ⟨.pointer (some ⟨b, off + z.toNat * sz, none⟩), ?_, ?_⟩
              · simp only [execOp, ho, hux, hy', Instr.indexAt, asIntOf, Sem.run_bind, Sem.run_pure, run_underlying hu, Result.andThen_ok]
                rw [if_pos ⟨h0, h1⟩]
                simp only [Sem.run_bind, Tab.sizeOf hT w hj, Result.andThen_ok, Sem.run_pure, h2, add_none]
              · have hl := hlen z.toNat (by omega)
                refine .rptr hS (vs := (List.range sz).map (V z.toNat)) (fun m v hm => ?_) ?_
                · rw [List.getElem?_map] at hm
                  cases hr' : (List.range sz)[m]? with
                  | none => rw [hr'] at hm; cases hm
                  | some m' =>
                    rw [hr'] at hm
                    obtain ⟨hm1, hm2⟩ := List.getElem?_eq_some_iff.1 hr'
                    simp at hm1 hm2; subst hm2
                    simp only [Option.map_some, Option.some.injEq] at hm; subst hm
                    exact hc _ _ (by omega) hm1
                · refine RTs.of_get (by simp [hl]) (fun m d v h3 h4 => ?_)
                  rw [List.getElem?_map] at h4
                  cases hr' : (List.range sz)[m]? with
                  | none => rw [hr'] at h4; cases h4
                  | some m' =>
                    rw [hr'] at h4
                    obtain ⟨hm1, hm2⟩ := List.getElem?_eq_some_iff.1 hr'
                    simp at hm2; subst hm2
                    simp only [Option.map_some, Option.some.injEq] at h4; subst h4
                    exact hr _ _ _ (by omega) h3
        · rename_i j id hj
          split at h
          · rename_i ee sz rs hl
            simp only [Option.some.injEq, Prod.mk.injEq] at h; obtain ⟨rfl, rfl⟩ := h
            obtain ⟨h0, h1, h2⟩ := hp
            have hv : RD γ S w (.base id) (a.eval x) := hR.op hx
            generalize hux : a.eval x = u at hv
            cases hv with
            | base hbg =>
              have hob := hR.heap.obj _ _ (lk_mem hl)
              cases hob with
              | nil => simp at h1; omega
              | row hg hcap h0' hbig hh hrest hsz hr hS =>
                rename_i b cap vs rest
                obtain rfl := Option.some.inj (hbg.symm.trans hg)
                refine ⟨.pointer (some ⟨b, z.toNat * sz + 0, none⟩), ?_, .eptr (by simp only [blk, hg, Option.bind_some, vblk]; rw [if_neg (by omega)])⟩
                simp only [execOp, ho, hux, hy', Instr.indexAt, asIntOf, Sem.run_bind, Sem.run_pure, run_underlying hu, Result.andThen_ok]
                rw [if_pos ⟨h0, h1⟩]
                simp only [Sem.run_bind, Tab.sizeOf hT w hj, Result.andThen_ok, Sem.run_pure, h2, add_none, Nat.zero_add, Nat.add_zero]
          · cases h
        · cases h
      · rename_i n el hk
        have hu := Tab.array hT hi hk
        have hrun : ∀ (j : TI) (b off : Nat), T el = some j → 0 ≤ z → z < n → (Instr.indexAt t (.pointer (some ⟨b, off, none⟩)) (.int k z)).run P w = .ok (.pointer (some ⟨b, off + z.toNat * j.sz, none⟩)) w := by
          intro j b off hj h0 h1
          simp only [Instr.indexAt, asIntOf, Sem.run_bind, Sem.run_pure, run_underlying hu, Result.andThen_ok, Instr.sureAddr]
          rw [if_pos ⟨h0, h1⟩]
          simp only [Sem.run_bind, Tab.sizeOf hT w hj, Result.andThen_ok, Sem.run_pure, add_none]
        split at h
        · rename_i j id off hj
          simp only [Option.some.injEq, Prod.mk.injEq] at h; obtain ⟨rfl, rfl⟩ := h
          have hv : RD γ S w (.ref id off) (a.eval x) := hR.op hx
          generalize hux : a.eval x = u at hv
          cases hv with
          | ref hb => exact ⟨_, by simp only [execOp, ho, hux, hy', Sem.run_bind, hrun j _ _ hj hp.1 hp.2, Result.andThen_ok, Sem.run_pure], .ref hb⟩
        · rename_i j cs hj
          simp only [Option.some.injEq, Prod.mk.injEq] at h; obtain ⟨rfl, rfl⟩ := h
          have hv : RD γ S w (.rptr cs) (a.eval x) := hR.op hx
          generalize hux : a.eval x = u at hv
          cases hv with
          | rptr hS hc hr =>
            rename_i b off vs
            refine ⟨_, by simp only [execOp, ho, hux, hy', Sem.run_bind, hrun j _ _ hj hp.1 hp.2.1, Result.andThen_ok, Sem.run_pure]; rfl, .rptr hS (vs := vs.drop _) (fun i v hi => ?_) (hr.drop _)⟩
            rw [List.getElem?_drop] at hi
            rw [Nat.add_assoc]; exact hc _ _ hi
        · cases h
      · cases h
    · cases h
  · -- index
    rename_i t x y ho
    split at h
    · rename_i i b k z hi hx hy
      have hx' := litS_run rfl (hR.op hx)
      have hy' := litS_run rfl (hR.op hy)
      split at h
      · rename_i hk
        have hu := Tab.str hT hi hk
        simp only [Option.some.injEq, Prod.mk.injEq] at h; obtain ⟨rfl, rfl⟩ := h
        refine ⟨_, ?_, .data (.lit _)⟩
        have hlt : z.toNat < b.size := by omega
        simp only [execOp, ho, hx', hy', Instr.index, asIntOf, Sem.run_bind, Sem.run_pure, run_underlying hu, Result.andThen_ok]
        rw [if_pos hp.1]
        simp [hlt]
      · cases h
    · rename_i i cs k z hi hx hy
      have hy' := litS_run rfl (hR.op hy)
      obtain ⟨vs, hvs, hr⟩ : ∃ vs : List Value, a.eval x = .agg vs.toArray ∧ RDs γ S w cs vs := hR.op hx
      split at h
      · rename_i n el hk
        have hu := Tab.array hT hi hk
        split at h
        · rename_i j hj
          simp only [Option.some.injEq, Prod.mk.injEq] at h; obtain ⟨rfl, rfl⟩ := h
          obtain ⟨u, h1, h2⟩ := partS_run hT hj hr hp.2.2
          refine ⟨u, ?_, h2⟩
          simp only [execOp, ho, hvs, hy', Instr.index, asIntOf, Sem.run_bind, Sem.run_pure, run_underlying hu, Result.andThen_ok]
          rw [if_pos ⟨hp.1, hp.2.1⟩]
          simp only [Sem.run_bind, Tab.sizeOf hT w hj, Result.andThen_ok, h1]
        · cases h
      · cases h
    · cases h
  · -- extract
    rename_i x n ho
    split at h
    · rename_i l hx
      split at h
      · rename_i c hc
        simp only [Option.some.injEq, Prod.mk.injEq] at h; obtain ⟨rfl, rfl⟩ := h
        obtain ⟨vs, hvs, hr⟩ : ∃ vs : List Value, a.eval x = .tuple vs.toArray ∧ RCs γ S w l vs := hR.op hx
        obtain ⟨u, h1, h2⟩ := hr.get hc
        exact ⟨u, by simp [execOp, ho, hvs, Instr.extract, h1], h2⟩
      · cases h
    · cases h
  · -- lookup
    rename_i t x y ok ho
    split at h
    · rename_i i id kk z hi hx hy
      have hy' := litS_run rfl (hR.op hy)
      split at h
      · rename_i kt vt ob hk hl
        split at h
        · rename_i ik iv hik hiv
          have hv : RD γ S w (.base id) (a.eval x) := hR.op hx
          have hob := hR.heap.obj _ _ (lk_mem hl)
          generalize hux : a.eval x = u at hv
          cases hv with
          | base hbg =>
            split at h
            · rename_i k es hkk
              split at h
              · rename_i k' hz
                cases hke : kindEq k k' with
                | false => rw [hke] at h; cases h
                | true =>
                  rw [hke] at h
                  obtain rfl := kindEq_eq hke
                  simp only [cond_true, Option.some.injEq, Prod.mk.injEq] at h; obtain ⟨rfl, rfl⟩ := h
                  cases hob with
                  | mi hg hh hr hS =>
                    obtain rfl := Option.some.inj (hbg.symm.trans hg)
                    obtain ⟨v, b, h1, h2⟩ := lookup_run hT hi hk hik hkk hiv hz hh hr z ok
                    have h3 : v = .int k ((findE es z).getD 0) ∧ b = (findE es z).isSome := by
                      rw [find_cvI] at h2
                      cases hf : findE es z with
                      | none => rw [hf] at h2; simpa using h2
                      | some n =>
                        rw [hf] at h2
                        rcases h2 with ⟨h4, _⟩ | ⟨c, h4, h5, rfl⟩
                        · simp at h4
                        · simp at h4; subst h4
                          exact ⟨litS_run (x := litS (.int k n)) rfl h5, rfl⟩
                    obtain ⟨rfl, rfl⟩ := h3
                    have h9 : ∀ V, (Instr.lookup t (a.eval x) (a.eval y) ok).run P w = .ok V w → (execOp a.eval o).run P w = .ok (.value V) w := by
                      intro V hV
                      simp only [execOp, ho, Sem.run_bind, hV, Result.andThen_ok, Sem.run_pure]
                    rw [hux, hy'] at h9
                    refine ⟨_, h9 _ h1, ?_⟩
                    cases ok with
                    | true => exact ⟨[_, _], rfl, .data (.lit _), .data (.lit _), trivial⟩
                    | false => exact .data (.lit _)
              · cases h
            · rename_i es hkk
              split at h
              · rename_i hz
                simp only [Option.some.injEq, Prod.mk.injEq] at h; obtain ⟨rfl, rfl⟩ := h
                cases hob with
                | mb hg hh hr hS =>
                  obtain rfl := Option.some.inj (hbg.symm.trans hg)
                  obtain ⟨v, b, h1, h2⟩ := lookup_run hT hi hk hik hkk hiv hz hh hr z ok
                  have h3 : v = .bool ((findE es z).getD false) ∧ b = (findE es z).isSome := by
                    rw [find_cvB] at h2
                    cases hf : findE es z with
                    | none => rw [hf] at h2; simpa using h2
                    | some n =>
                      rw [hf] at h2
                      rcases h2 with ⟨h4, _⟩ | ⟨c, h4, h5, rfl⟩
                      · simp at h4
                      · simp at h4; subst h4
                        exact ⟨litS_run (x := litS (.bool n)) rfl h5, rfl⟩
                  obtain ⟨rfl, rfl⟩ := h3
                  have h9 : ∀ V, (Instr.lookup t (a.eval x) (a.eval y) ok).run P w = .ok V w → (execOp a.eval o).run P w = .ok (.value V) w := by
                    intro V hV
                    simp only [execOp, ho, Sem.run_bind, hV, Result.andThen_ok, Sem.run_pure]
                  rw [hux, hy'] at h9
                  refine ⟨_, h9 _ h1, ?_⟩
                  cases ok with
                  | true => exact ⟨[_, _], rfl, .data (.lit _), .data (.lit _), trivial⟩
                  | false => exact .data (.lit _)
              · cases h
            · rename_i es hkk
              split at h
              · rename_i zv hz
                split at h
                · rename_i zc hzc
                  simp only [Option.some.injEq, Prod.mk.injEq] at h; obtain ⟨rfl, rfl⟩ := h
                  cases hob with
                  | mp hg hh hr hS =>
                    obtain rfl := Option.some.inj (hbg.symm.trans hg)
                    obtain ⟨v, b, h1, h2⟩ := lookup_run hT hi hk hik hkk hiv hz hh hr z ok
                    have h3 : RC γ S w ((findE es z).getD zc) v ∧ b = (findE es z).isSome := by
                      rcases h2 with ⟨h4, rfl, rfl⟩ | ⟨c, h4, h5, rfl⟩
                      · rw [h4]
                        have h6 := RV.cst (γ := γ) (S := S) (w := w) v
                        rw [hzc] at h6
                        exact ⟨h6, rfl⟩
                      · rw [h4]; exact ⟨h5, rfl⟩
                    obtain ⟨h3, rfl⟩ := h3
                    have h9 : ∀ V, (Instr.lookup t (a.eval x) (a.eval y) ok).run P w = .ok V w → (execOp a.eval o).run P w = .ok (.value V) w := by
                      intro V hV
                      simp only [execOp, ho, Sem.run_bind, hV, Result.andThen_ok, Sem.run_pure]
                    rw [hux, hy'] at h9
                    refine ⟨_, h9 _ h1, ?_⟩
                    cases ok with
                    | true => exact ⟨[_, _], rfl, h3, .data (.lit _), trivial⟩
                    | false => exact h3
                · cases h
              · cases h
            · cases h
        · cases h
      · cases h
    · cases h
  · -- call len
    rename_i cc ho
    split at h
    · rename_i x t h1 h2 h3
      split at h
      · rename_i i z hi hx
        have hx' := litS_run rfl (hR.op hx)
        split at h
        · rename_i hk
          simp only [Option.some.injEq, Prod.mk.injEq] at h; obtain ⟨rfl, rfl⟩ := h
          have hu := Tab.str hT hi hk
          refine ⟨_, len_run ho h1 h2 h3 ?_, .data (.lit _)⟩
          simp [Builtin.len_, hx', run_underlying hu, goInt]
        · cases h
      · rename_i i A n c hi hx
        have hx' := litS_run rfl (hR.op hx)
        split at h
        · rename_i el hk
          simp only [Option.some.injEq, Prod.mk.injEq] at h; obtain ⟨rfl, rfl⟩ := h
          have hu := Tab.slice hT hi hk
          refine ⟨_, len_run ho h1 h2 h3 ?_, .data (.lit _)⟩
          simp [Builtin.len_, hx', run_underlying hu, goInt]
        · cases h
      · rename_i i sz n f hi hx
        split at h
        · rename_i el hk
          simp only [Option.some.injEq, Prod.mk.injEq] at h; obtain ⟨rfl, rfl⟩ := h
          have hu := Tab.slice hT hi hk
          have hv : RD γ S w (.data (.rows sz n f)) (a.eval x) := hR.op hx
          refine ⟨_, len_run ho h1 h2 h3 ?_, .data (.lit _)⟩
          generalize a.eval x = u at hv
          cases hv with
          | data hv => cases hv with
            | rows => simp [Builtin.len_, run_underlying hu, goInt]
        · cases h
      · rename_i i id hi hx
        have hv : RD γ S w (.base id) (a.eval x) := hR.op hx
        split at h
        · rename_i el e' sz rs hk hl
          simp only [Option.some.injEq, Prod.mk.injEq] at h; obtain ⟨rfl, rfl⟩ := h
          have hu := Tab.slice hT hi hk
          refine ⟨_, len_run ho h1 h2 h3 ?_, .data (.lit _)⟩
          generalize a.eval x = u at hv
          cases hv with
          | base hbg =>
            have hob := hR.heap.obj _ _ (lk_mem hl)
            cases hob with
            | nil hg => obtain rfl := Option.some.inj (hbg.symm.trans hg); simp [Builtin.len_, run_underlying hu, goInt]
            | row hg => obtain rfl := Option.some.inj (hbg.symm.trans hg); simp [Builtin.len_, run_underlying hu, goInt]
        · rename_i kt vt es hk hl
          simp only [Option.some.injEq, Prod.mk.injEq] at h; obtain ⟨rfl, rfl⟩ := h
          have hu := Tab.map hT hi hk
          refine ⟨_, len_run ho h1 h2 h3 ?_, .data (.lit _)⟩
          generalize a.eval x = u at hv
          cases hv with
          | base hbg =>
            have hob := hR.heap.obj _ _ (lk_mem hl)
            cases hob with
            | mp hg hh hr hS =>
              obtain rfl := Option.some.inj (hbg.symm.trans hg)
              rw [hr.length]
              simp [Builtin.len_, run_underlying hu, goInt, getObj, Sem.run, hh]
        · rename_i kt vt k es hk hl
          simp only [Option.some.injEq, Prod.mk.injEq] at h; obtain ⟨rfl, rfl⟩ := h
          have hu := Tab.map hT hi hk
          refine ⟨_, len_run ho h1 h2 h3 ?_, .data (.lit _)⟩
          generalize a.eval x = u at hv
          cases hv with
          | base hbg =>
            have hob := hR.heap.obj _ _ (lk_mem hl)
            cases hob with
            | mi hg hh hr hS =>
              obtain rfl := Option.some.inj (hbg.symm.trans hg)
              rw [← cvI_length k es, hr.length]
              simp [Builtin.len_, run_underlying hu, goInt, getObj, Sem.run, hh]
        · rename_i kt vt es hk hl
          simp only [Option.some.injEq, Prod.mk.injEq] at h; obtain ⟨rfl, rfl⟩ := h
          have hu := Tab.map hT hi hk
          refine ⟨_, len_run ho h1 h2 h3 ?_, .data (.lit _)⟩
          generalize a.eval x = u at hv
          cases hv with
          | base hbg =>
            have hob := hR.heap.obj _ _ (lk_mem hl)
            cases hob with
            | mb hg hh hr hS =>
              obtain rfl := Option.some.inj (hbg.symm.trans hg)
              rw [← cvB_length es, hr.length]
              simp [Builtin.len_, run_underlying hu, goInt, getObj, Sem.run, hh]
        · cases h
      · cases h
    · cases h
  · cases h
end
end Go.Fw
/- The framework, part 6: states that move on: a slot, a new object, a store, a map's entry, an append. -/
set_option linter.unusedVariables false
set_option linter.unusedSimpArgs false
namespace Go.Fw
open Go

def St.put (s : St) (d : Nat) (v : SV) : St := { s with sl := (d, v) :: s.sl }
def St.new (s : St) (o : O) : St := { s with h := (s.nx, o) :: s.h, nx := s.nx + 1 }
def upd (γ : Nat → Option Value) (id : Nat) (v : Value) : Nat → Option Value := fun i => if i = id then some v else γ i

section
variable {e : Env} {γ : Nat → Option Value} {S : Nat → Prop} {s : St} {a : Act} {w : World}

theorem Rep.put (hR : Rep e γ S s a w) {d : Nat} {v : SV} {u : Value} (hv : RV γ S w v u) (hd : d < e.N) : Rep e γ S (s.put d v) (a.put (some d) u) w := by
  refine { hR with size := by simp [Act.put, hR.size], defers := hR.defers, slots := ?_ }
  intro d' v' h'
  simp only [St.put, lk_cons] at h'
  have hsz := hR.size
  split at h'
  · rename_i he
    subst he
    simp only [Option.some.injEq] at h'; subst h'
    simp only [Act.put]
    rw [Array.getD_eq_getD_getElem?, Array.getElem?_setIfInBounds_self_of_lt (by omega)]
    exact hv
  · rename_i he
    have := hR.slots d' v' h'
    simp only [Act.put]
    rw [Array.getD_eq_getD_getElem?, Array.getElem?_setIfInBounds_ne he, ← Array.getD_eq_getD_getElem?]
    exact this
/-- A slot that is no longer told. -/
theorem Rep.skip (hR : Rep e γ S s a w) {d : Option Nat} (u : Value) (hd : ∀ i, d = some i → i < e.N) : Rep e γ S (match d with | some i => s.put i (one .any) | none => s) (a.put d u) w := by
  cases d with
  | none => exact hR
  | some i => exact hR.put (v := one .any) (.any u) (hd i rfl)

theorem Same.alloc (w : World) (ob : Obj) (S : Nat → Prop) (h : ∀ k, S k → k < w.heap.size) : Same S w (w.alloc ob) := fun k hk => Go.RowKit.Below.heap_alloc w ob k (h k hk)
theorem Kept.alloc {w0 : World} {E : Nat → Prop} (h : Kept w0 E w) (ob : Obj) : Kept w0 E (w.alloc ob) :=
  h.trans rfl ⟨rfl, Nat.le_refl _⟩ rfl (by simp) fun k hk _ => Go.RowKit.Below.heap_alloc w ob k (Nat.lt_of_lt_of_le hk h.size)

theorem Rep.made (hR : Rep e γ S s a w) (ob : Obj) {o : O} {val : Value} (hro : RO (upd γ s.nx val) S (w.alloc ob) s.nx o) (hb : ∀ b, vblk val = some b → b = w.heap.size) :
    Rep e (upd γ s.nx val) S (s.new o) a (w.alloc ob) := by
  have hsame := Same.alloc w ob S hR.sw
  have hext : ∀ id v, γ id = some v → upd γ s.nx val id = γ id := by
    intro id v hv
    unfold upd
    rw [if_neg]
    rintro rfl
    rw [hR.new _ (Nat.le_refl _)] at hv; cases hv
  have hids : ∀ id o, (id, o) ∈ s.h → id ≠ s.nx := fun id o h he => by have := hR.fresh id o h; omega
  have hup : ∀ id, id ≠ s.nx → upd γ s.nx val id = γ id := fun id h => by unfold upd; rw [if_neg h]
  have hnew : upd γ s.nx val s.nx = some val := by unfold upd; rw [if_pos rfl]
  refine { size := hR.size, defers := hR.defers, slots := fun d v h => (hR.slots d v h).move hsame (fun _ h => h) (fun id _ => hext id), heap := ?_, fresh := ?_, kept := hR.kept.alloc ob, sw := ?_, s0 := hR.s0, sin := hR.sin, own := ?_, gam := ?_, ids := ?_, nx := ?_, h0 := hR.h0, rows := ?_, new := ?_ }
  · refine { obj := ?_, apart := ?_, keys := ?_ }
    · intro id o' h
      rcases List.mem_cons.1 h with he | h
      · cases he; exact hro
      · have h0 := hR.heap.obj id o' h
        refine h0.move hsame (fun _ h => h) (fun i _ => hext i) (hup id (hids id o' h)) (fun b hb' => ⟨Go.RowKit.Below.heap_alloc w ob b (h0.blk_lt hb').1, fun h => h⟩)
    · intro id o1 id' o2 h1 h2 hne b hb1 hb2
      have old : ∀ id o', (id, o') ∈ s.h → ∀ b, blk (upd γ s.nx val) id = some b → blk γ id = some b ∧ b < w.heap.size := by
        intro id o' h b hb'
        have : blk γ id = some b := by unfold blk at hb' ⊢; rw [← hup id (hids id o' h)]; exact hb'
        exact ⟨this, ((hR.heap.obj id o' h).blk_lt this).1⟩
      rcases List.mem_cons.1 h1 with he1 | h1 <;> rcases List.mem_cons.1 h2 with he2 | h2
      · cases he1; cases he2; exact hne rfl
      · cases he1
        have h3 := hb b (by simpa [blk, hnew] using hb1)
        have := (old id' o2 h2 b hb2).2; omega
      · cases he2
        have h3 := hb b (by simpa [blk, hnew] using hb2)
        have := (old id o1 h1 b hb1).2; omega
      · exact hR.heap.apart id o1 id' o2 h1 h2 hne b (old id o1 h1 b hb1).1 (old id' o2 h2 b hb2).1
    · simp only [St.new, List.map_cons, List.nodup_cons]
      refine ⟨fun h => ?_, hR.heap.keys⟩
      obtain ⟨⟨id, o'⟩, h1, h2⟩ := List.mem_map.1 h
      exact hids id o' h1 h2
  · intro id o' h
    rcases List.mem_cons.1 h with he | h
    · cases he; simp [St.new]
    · have := hR.fresh id o' h; simp only [St.new]; omega
  · intro k hk; have := hR.sw k hk; simp; omega
  · intro id o' b h hb'
    rcases List.mem_cons.1 h with he | h
    · cases he
      have h3 := hb b (by simpa [blk, hnew] using hb')
      have := hR.kept.size
      right; omega
    · refine hR.own id o' b h ?_
      unfold blk at hb' ⊢; rw [← hup id (hids id o' h)]; exact hb'
  · intro id h1 h2
    rw [hup id (by have := hR.nx; omega)]
    exact hR.gam id h1 h2
  · intro id o' h
    rcases List.mem_cons.1 h with he | h
    · cases he; right; exact hR.nx
    · exact hR.ids id o' h
  · have := hR.nx; simp only [St.new]; omega
  · intro id o' h h1 h2
    rcases List.mem_cons.1 h with he | h
    · cases he
      have := hR.h0 _ h1; have := hR.nx; omega
    · exact hR.rows id o' h h1 h2
  · intro id h
    simp only [St.new] at h
    rw [hup id (by omega)]
    exact hR.new id (by omega)
end

/-! ### A value's cells -/
def solidL : T → Bool
  | .lit (.agg _) => false
  | .lit (.tuple _) => false
  | _ => true
def St.solid (s : St) : D → Bool
  | .data t => solidL t
  | .base id => (lk s.h id).isSome
  | .any => false
  | _ => true
def St.cellsOf (s : St) : SV → Option (List D)
  | .c (.one d) => bif s.solid d then some [d] else none
  | .c (.agg ds) => bif ds.all s.solid then some ds else none
  | _ => none
def cellV : Value → Bool
  | .agg _ => false
  | .tuple _ => false
  | _ => true
section
variable {e : Env} {γ : Nat → Option Value} {S : Nat → Prop} {s : St} {a : Act} {w : World}
theorem Rep.solid (hR : Rep e γ S s a w) {d : D} {v : Value} (h : s.solid d = true) (hv : RD γ S w d v) : cellV v = true := by
  cases hv with
  | data h1 => cases h1 with
    | lit v => cases v <;> first | rfl | simp [St.solid, solidL] at h
    | rows => rfl
  | any => simp [St.solid] at h
  | base hb =>
    rename_i id
    simp only [St.solid] at h
    cases hl : lk s.h id with
    | none => rw [hl] at h; simp at h
    | some o =>
      have ho := hR.heap.obj _ _ (lk_mem hl)
      cases ho with
      | box hg => rw [hg] at hb; cases hb; rfl
      | nil hg => rw [hg] at hb; cases hb; rfl
      | row hg => rw [hg] at hb; cases hb; rfl
      | mp hg => rw [hg] at hb; cases hb; rfl
      | mi hg => rw [hg] at hb; cases hb; rfl
      | mb hg => rw [hg] at hb; cases hb; rfl
      | it hg => rw [hg] at hb; cases hb; rfl
  | _ => rfl
theorem cellV_cells {v : Value} (h : cellV v = true) : v.cells = #[v] := by cases v <;> first | rfl | simp [cellV] at h
theorem Rep.solids (hR : Rep e γ S s a w) : ∀ {ds : List D} {vs : List Value}, ds.all s.solid = true → RDs γ S w ds vs → ∀ v, v ∈ vs → cellV v = true
  | [], [], _, _, v, h => by simp at h
  | d :: ds, u :: us, hs, ⟨h1, h2⟩, v, h => by
    simp only [List.all_cons, Bool.and_eq_true] at hs
    rcases List.mem_cons.1 h with rfl | h
    · exact hR.solid hs.1 h1
    · exact Rep.solids hR hs.2 h2 v h
theorem Rep.cellsOf (hR : Rep e γ S s a w) {x : SV} {v : Value} {ds : List D} (h : s.cellsOf x = some ds) (hv : RV γ S w x v) :
    ∃ vs : List Value, v.cells = vs.toArray ∧ RDs γ S w ds vs ∧ ∀ u, u ∈ vs → cellV u = true := by
  unfold St.cellsOf at h
  split at h
  · rename_i d
    cases hs : s.solid d with
    | false => rw [hs] at h; cases h
    | true =>
      rw [hs] at h; simp only [cond_true, Option.some.injEq] at h; subst h
      have hc := hR.solid hs hv
      exact ⟨[v], cellV_cells hc, ⟨hv, trivial⟩, by simpa using hc⟩
  · rename_i ds'
    cases hs : ds'.all s.solid with
    | false => rw [hs] at h; cases h
    | true =>
      rw [hs] at h; simp only [cond_true, Option.some.injEq] at h; subst h
      obtain ⟨vs, rfl, hr⟩ := hv
      exact ⟨vs, rfl, hr, hR.solids hs hr⟩
  · cases h
end
end Go.Fw
