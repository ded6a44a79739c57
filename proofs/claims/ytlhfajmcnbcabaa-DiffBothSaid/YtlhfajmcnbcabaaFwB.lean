/- The framework, part 7: stores, and append. -/
import Derived.Test.YtlhfajmcnbcabaaFwA
import Derived.Laws.CopyRow
import Derived.Laws.AppendOwn
import Derived.Laws.Tables
import Derived.Laws.NewFold
set_option linter.unusedVariables false
set_option linter.unusedSimpArgs false
namespace Go.Fw
open Go

theorem oneCell_of_cellV {v : Value} (h : cellV v = true) : v.oneCell' = true := by cases v <;> first | rfl | simp [cellV] at h

/-- A store of cells into a row of one's own. -/
theorem storeVar_run {P : Program} {T : Tab} (hT : T.OK P) (w : World) {t : TypeId} {i : TI} (hi : T t = some i) {b off : Nat} {cur : List Value} {et : TypeId} (hh : w.heap[b]? = some (.cells cur.toArray et (0, 0)))
    {v : Value} {vs : List Value} (hv : v.cells = vs.toArray) (hsz : vs.length = i.sz) (hc : ∀ u, u ∈ vs → cellV u = true) (hl : off + vs.length ≤ cur.length) :
    (storeVar t ⟨b, off, none⟩ v).run P w = .ok () (w.setRow b (cur.take off ++ vs ++ cur.drop (off + vs.length)).toArray) := by
  have hst := run_storeCells_at P b off et vs 0 cur.toArray w hh (by simpa using hl) (fun u hu => oneCell_of_cellV (hc u hu))
  simp only [Nat.add_zero] at hst
  simp only [storeVar, hv, Sem.run_bind, Tab.sizeOf hT w hi, Result.andThen_ok, List.size_toArray, hsz, ne_eq, not_true_eq_false, if_false]
  rw [hsz] at hst
  exact hst

/-- append onto a row of one's own, whatever the source. -/
theorem append_run {P : Program} {T : Tab} (hT : T.OK P) (w : World) {t t2 el ty : TypeId} {i j : TI} (hi : T t = some i) (hk : i.k = .slice el) (hj : T el = some j) {z : Value} (hz : j.zero = some z)
    (hzs : z.cells.size = j.sz) (hx2 : P.underlying t2 = some .string ∨ ∃ e', P.underlying t2 = some (.slice e')) {x : Value} {m : Nat} {news : List Value} (hlen : (Builtin.lenOf x).run P w = .ok m w)
    (hf : ∀ w' : World, w'.heap = w.heap → (Builtin.firstCells j.sz m x).run P w' = .ok news.toArray w') (hnl : news.length = m * j.sz) (hc : ∀ u, u ∈ news → cellV u = true)
    {A : Option Addr} {n cap : Nat} {olds rest : List Value} (hn : n ≤ cap) (hcap : (cap = 0 ∧ olds = [] ∧ n = 0) ∨ ∃ b, A = some ⟨b, 0, none⟩ ∧ w.heap[b]? = some (.cells (olds ++ rest).toArray el (0, 0)) ∧ olds.length = n * j.sz ∧ n * j.sz + rest.length = cap * j.sz ∧ 0 < cap)
    (hbig : (n + m) * j.bytes ≤ big) (hb0 : n + m ≤ big) :
    ∃ v' w', (Builtin.append_ #[t, t2] ty #[.slice A n cap, x]).run P w = .ok v' w' ∧ w'.os = w.os ∧ (w'.tape = w.tape ∧ w.drawn ≤ w'.drawn) ∧ w'.output = w.output ∧ w.heap.size ≤ w'.heap.size ∧
      ((v' = .slice A 0 0 ∧ n + m = 0 ∧ cap = 0 ∧ w' = w) ∨ ∃ b c rest', v' = .slice (some ⟨b, 0, none⟩) (n + m) c ∧ n + m ≤ c ∧ 0 < c ∧ w'.heap[b]? = some (.cells (olds ++ news ++ rest').toArray el (0, 0)) ∧
        (n + m) * j.sz + rest'.length = c * j.sz ∧ ((A = some ⟨b, 0, none⟩ ∧ cap = c ∧ w'.heap.size = w.heap.size ∧ ∀ k, k ≠ b → w'.heap[k]? = w.heap[k]?) ∨ (b = w.heap.size ∧ ∀ k, k < w.heap.size → w'.heap[k]? = w.heap[k]?))) := by
  have ht := Tab.slice hT hi hk
  obtain ⟨info, h1, h3, h4, h5⟩ := Tab.typeInfo hT hj
  obtain ⟨jsz, jby, jz, jk⟩ := j
  simp only at h3 h4 h5 hz hzs hf hnl hcap hbig ⊢
  subst h3; subst h4; subst h5
  have hsmall : n + m ≤ 9223372036854775807 := by unfold big at hb0; omega
  by_cases hroom : n + m ≤ cap
  · rcases hcap with ⟨rfl, rfl, rfl⟩ | ⟨b, rfl, hh, hol, hrest, hc0⟩
    · obtain rfl : m = 0 := by omega
      obtain rfl : news = [] := List.eq_nil_of_length_eq_zero (by simpa using hnl)
      refine ⟨.slice A 0 0, w, ?_, rfl, ⟨rfl, Nat.le_refl _⟩, rfl, Nat.le_refl _, .inl ⟨rfl, rfl, rfl, rfl⟩⟩
      have hf0 := hf w rfl
      rcases hx2 with hx2 | ⟨e', hx2⟩ <;> cases A <;>
        simp [Builtin.append_, run_underlying ht, run_underlying hx2, sizeOf, typeInfo, h1, hlen, hf0, storeCells]
    · have hf0 := hf w rfl
      have hl1 : olds.length + news.length ≤ (olds ++ rest).length := by
        rw [List.length_append, hol, hnl, ← Nat.add_mul, hrest]; exact Nat.mul_le_mul_right _ hroom
      have hst := run_storeCells_at P b (n * info.size) el news 0 (olds ++ rest).toArray w hh (by simp only [Nat.add_zero, List.size_toArray]; omega) (fun u hu => oneCell_of_cellV (hc u hu))
      simp only [Nat.add_zero] at hst
      refine ⟨.slice (some ⟨b, 0, none⟩) (n + m) cap, _, (?_ : _ = Result.ok _ (w.setRow b ((olds ++ rest).toArray.toList.take (n * info.size) ++ news ++ (olds ++ rest).toArray.toList.drop (n * info.size + news.length)).toArray)), ?_⟩
      · rcases hx2 with hx2 | ⟨e', hx2⟩ <;>
          simp only [Builtin.append_, run_underlying ht, run_underlying hx2, sizeOf, typeInfo, h1, hlen, hf0, add_none, hst, List.getElem?_toArray, List.getElem?_cons_zero, List.getElem?_cons_succ, Sem.run_bind, Sem.run_pure, Result.andThen_ok, program, Sem.run, Bool.false_eq_true, if_false,
            Bool.not_false, if_true, hroom, Nat.zero_add]
      · refine ⟨rfl, ⟨rfl, Nat.le_refl _⟩, rfl, by simp [World.setRow], .inr ⟨b, cap, rest.drop news.length, rfl, hroom, hc0, ?_, ?_, .inl ⟨rfl, rfl, by simp [World.setRow], fun k hk => setRow_other w b k _ hk⟩⟩⟩
        · rw [setRow_heap w b _ _ el _ hh]
          congr 2
          simp only [List.toList_toArray]
          rw [← hol, List.take_left, ← List.drop_drop, List.drop_left]
        · rw [List.length_drop, Nat.add_mul]
          rw [List.length_append] at hl1
          omega
  · have hfit := growslice_fits (need := n + m) (old := cap) (bytes := info.bytes) (by omega) hbig
    have h63' : ¬ (9223372036854775807 < ((n : Int) + (m : Int))) := by omega
    have h48' : ¬ (281474976710656 < Builtin.nextslicecap (n + m) cap * info.bytes) := by omega
    have hge := grownCap_ge w (n + m) cap el
    have hfn := hf w.drew rfl
    have hfo : (Builtin.firstCells info.size n (.slice A n cap)).run P w.drew = .ok olds.toArray w.drew := by
      rcases hcap with ⟨rfl, rfl, rfl⟩ | ⟨b, rfl, hh, hol, hrest, hc0⟩
      · cases A <;> simp [Builtin.firstCells, loadCells, loadCellsFrom]
      · refine run_firstCells_some (P := P) w.drew info.size n ⟨b, 0, none⟩ n cap olds hol (fun k v hk => ?_)
        rw [add_none]
        simp only [World.cell?_drew, Nat.zero_add]
        rw [cell_of_block hh, List.getElem?_append_left (List.getElem?_eq_some_iff.1 hk).1]; exact hk
    have hol : olds.length = n * info.size := by
      rcases hcap with ⟨rfl, rfl, rfl⟩ | ⟨b, rfl, hh, hol, hrest, hc0⟩
      · simp
      · exact hol
    refine ⟨.slice (some ⟨w.heap.size, 0, none⟩) (n + m) (grownCap w (n + m) cap el), w.drew.alloc (.cells (olds ++ news ++ (Builtin.zeroCells z.cells (grownCap w (n + m) cap el - (n + m))).toList).toArray el), ?_, rfl, ⟨rfl, Nat.le_succ _⟩, rfl, by simp,
      .inr ⟨w.heap.size, _, (Builtin.zeroCells z.cells (grownCap w (n + m) cap el - (n + m))).toList, rfl, hge, by omega, heap_alloc_new w.drew _, ?_, .inr ⟨rfl, fun k hk => heap_alloc_old w.drew _ k hk⟩⟩⟩
    · have h2 : (olds ++ news ++ (Builtin.zeroCells z.cells (grownCap w (n + m) cap el - (n + m))).toList).toArray = olds.toArray ++ news.toArray ++ Builtin.zeroCells z.cells (grownCap w (n + m) cap el - (n + m)) := by
        apply Array.ext'; simp [List.append_assoc]
      rw [h2]
      rcases hx2 with hx2 | ⟨e', hx2⟩ <;>
        simp [Builtin.append_, run_underlying ht, run_underlying hx2, sizeOf, typeInfo, zeroValue, h1, hz, hlen, hroom, h63', h48', Question.forced, hfn, hfo, newRow, grownCap] <;> (congr 2; apply Array.ext'; simp [List.append_assoc])
    · simp only [Array.length_toList, size_zeroCells, hzs, ← Nat.add_mul]
      congr 1
      omega
end Go.Fw
/- The framework, part 8: an object that turns; a row that grows. -/
set_option linter.unusedVariables false
set_option linter.unusedSimpArgs false
namespace Go.Fw
open Go

def setO : Heap → Nat → O → Heap
  | [], _, _ => []
  | (k, x) :: r, id, o => bif Nat.beq k id then (k, o) :: r else (k, x) :: setO r id o
theorem setO_cons (k : Nat) (x : O) (r : Heap) (id : Nat) (o : O) : setO ((k, x) :: r) id o = if k = id then (k, o) :: r else (k, x) :: setO r id o := by
  simp only [setO]
  by_cases h : k = id
  · subst h; simp
  · have : Nat.beq k id = false := by
      cases hb : Nat.beq k id with
      | true => exact absurd (Nat.eq_of_beq_eq_true hb) h
      | false => rfl
    simp [this, h]
theorem setO_keys : ∀ (h : Heap) (id : Nat) (o : O), (setO h id o).map (·.1) = h.map (·.1)
  | [], _, _ => rfl
  | (k, x) :: r, id, o => by
    rw [setO_cons]; split
    · rfl
    · simp [setO_keys r id o]
theorem mem_setO : ∀ {h : Heap} {id : Nat} {o : O} {i : Nat} {x : O}, (h.map (·.1)).Nodup → (i, x) ∈ setO h id o → (i = id ∧ x = o ∧ ∃ x', (id, x') ∈ h) ∨ (i ≠ id ∧ (i, x) ∈ h)
  | [], _, _, _, _, _, h => by simp [setO] at h
  | (k, y) :: r, id, o, i, x, hn, h => by
    rw [setO_cons] at h
    simp only [List.map_cons, List.nodup_cons] at hn
    split at h
    · rename_i hk
      subst hk
      rcases List.mem_cons.1 h with he | h'
      · cases he; exact .inl ⟨rfl, rfl, y, List.mem_cons_self⟩
      · refine .inr ⟨?_, List.mem_cons_of_mem _ h'⟩
        rintro rfl
        exact hn.1 (List.mem_map.2 ⟨(i, x), h', rfl⟩)
    · rename_i hk
      rcases List.mem_cons.1 h with he | h
      · cases he; exact .inr ⟨hk, List.mem_cons_self⟩
      · rcases mem_setO hn.2 h with ⟨h1, h2, x', h3⟩ | ⟨h1, h2⟩
        · exact .inl ⟨h1, h2, x', List.mem_cons_of_mem _ h3⟩
        · exact .inr ⟨h1, List.mem_cons_of_mem _ h2⟩

theorem mem_setO' {h : Heap} {id : Nat} {o o' : O} (hn : (h.map (·.1)).Nodup) (hm : (id, o) ∈ h) {i : Nat} {x : O} (hx : (i, x) ∈ setO h id o') : (i = id ∧ x = o') ∨ (i, x) ∈ h := by
  rcases mem_setO hn hx with ⟨h1, h2, _⟩ | ⟨_, h2⟩
  · exact .inl ⟨h1, h2⟩
  · exact .inr h2

section
variable {e : Env} {γ : Nat → Option Value} {S : Nat → Prop} {s : St} {a : Act} {w w' : World}

/-- An object turns in place: its block, b, is another one then; all else is as it was. -/
theorem Rep.turn (hR : Rep e γ S s a w) {id b : Nat} {o o' : O} (hm : (id, o) ∈ s.h) (hb : blk γ id = some b) (hos : w'.os = w.os) (ht : w'.tape = w.tape ∧ w.drawn ≤ w'.drawn) (hou : w'.output = w.output)
    (hsz : w'.heap.size = w.heap.size) (hk : ∀ k, k ≠ b → w'.heap[k]? = w.heap[k]?) (hkind : o'.isRow = o.isRow) (hro : RO γ S w' id o') : Rep e γ S { s with h := setO s.h id o' } a w' := by
  have hbS := (hR.heap.obj _ _ hm).blk_lt hb
  have hsame : Same S w w' := fun k hkS => hk k (fun he => hbS.2 (he ▸ hkS))
  refine { size := hR.size, defers := hR.defers, slots := fun d v h => (hR.slots d v h).move hsame (fun _ h => h) (fun _ _ _ _ => rfl), heap := ?_, fresh := ?_, kept := ?_, sw := ?_, s0 := hR.s0, sin := hR.sin, own := ?_, gam := hR.gam, ids := ?_, nx := hR.nx, h0 := hR.h0, rows := ?_, new := hR.new }
  · refine { obj := ?_, apart := ?_, keys := by rw [setO_keys]; exact hR.heap.keys }
    · intro i x h
      rcases mem_setO hR.heap.keys h with ⟨rfl, rfl, _⟩ | ⟨h1, h2⟩
      · exact hro
      · refine (hR.heap.obj i x h2).move hsame (fun _ h => h) (fun _ _ _ _ => rfl) rfl (fun c hc => ⟨hk c (fun he => ?_), fun h => h⟩)
        subst he
        exact hR.heap.apart _ _ _ _ h2 hm h1 c hc hb
    · intro i x i' x' h1 h2 hne c hc
      have f : ∀ i x, (i, x) ∈ setO s.h id o' → ∃ x', (i, x') ∈ s.h := by
        intro i x h
        rcases mem_setO hR.heap.keys h with ⟨rfl, _, y, hy⟩ | ⟨_, h2⟩
        · exact ⟨y, hy⟩
        · exact ⟨x, h2⟩
      obtain ⟨y, hy⟩ := f i x h1
      obtain ⟨y', hy'⟩ := f i' x' h2
      exact hR.heap.apart i y i' y' hy hy' hne c hc
  · intro i x h
    rcases mem_setO hR.heap.keys h with ⟨rfl, _, y, hy⟩ | ⟨_, h2⟩
    · exact hR.fresh _ _ hy
    · exact hR.fresh _ _ h2
  · refine hR.kept.trans hos ht hou (by omega) (fun k hk0 hE => hk k ?_)
    rintro rfl
    rcases hR.own _ _ _ hm hb with h | h
    · exact hE ⟨_, h⟩
    · omega
  · intro k h; rw [hsz]; exact hR.sw k h
  · intro i x c h hc
    rcases mem_setO hR.heap.keys h with ⟨rfl, _, y, hy⟩ | ⟨_, h2⟩
    · exact hR.own _ _ _ hy hc
    · exact hR.own _ _ _ h2 hc
  · intro i x h
    rcases mem_setO hR.heap.keys h with ⟨rfl, _, y, hy⟩ | ⟨_, h2⟩
    · exact hR.ids _ _ hy
    · exact hR.ids _ _ h2
  · intro i x h h1 h2
    rcases mem_setO' hR.heap.keys hm h with ⟨rfl, rfl⟩ | h3
    · exact hR.rows _ _ hm h1 (by rw [← hkind]; exact h2)
    · exact hR.rows _ _ h3 h1 h2

/-! ### What leads to a row that grows is forgotten -/
def D.kill (id : Nat) (d : D) : D := bif d.has id then .any else d
def Cv.kill (id : Nat) : Cv → Cv
  | .one d => .one (d.kill id)
  | .agg ds => .agg (ds.map (D.kill id))
def SV.kill (id : Nat) : SV → SV
  | .c x => .c (x.kill id)
  | .tup l => .tup (l.map (Cv.kill id))
def O.kill (id : Nat) : O → O
  | .box t cs => .box t (cs.map (D.kill id))
  | .row e sz rs => .row e sz (rs.map (fun r => r.map (D.kill id)))
  | .mp es => .mp (es.map fun x => (x.1, x.2.kill id))
  | .mi k es => .mi k es
  | .mb es => .mb es
  | .it z p => .it z p
def killL : List (Nat × SV) → Nat → List (Nat × SV)
  | [], _ => []
  | (d, v) :: r, id => (d, v.kill id) :: killL r id
def killH : Heap → Nat → Heap
  | [], _ => []
  | (d, v) :: r, id => (d, v.kill id) :: killH r id
def St.kill (s : St) (id : Nat) : St := { s with sl := killL s.sl id, h := killH s.h id }

theorem D.kill_has (id : Nat) (d : D) : (d.kill id).has id = false := by
  unfold D.kill
  cases h : d.has id with
  | true => rfl
  | false => exact h
theorem RD.kill {d : D} {v : Value} (id : Nat) (h : RD γ S w d v) : RD γ S w (d.kill id) v := by
  unfold D.kill
  cases d.has id with
  | true => exact .any v
  | false => exact h
theorem RDs.kill (id : Nat) : ∀ {ds : List D} {vs : List Value}, RDs γ S w ds vs → RDs γ S w (ds.map (D.kill id)) vs
  | [], [], _ => trivial
  | _ :: _, _ :: _, ⟨h, r⟩ => ⟨h.kill id, RDs.kill id r⟩
theorem RC.kill {d : Cv} {v : Value} (id : Nat) (h : RC γ S w d v) : RC γ S w (d.kill id) v := by
  cases d with
  | one d => exact RD.kill id h
  | agg ds => obtain ⟨vs, rfl, h⟩ := h; exact ⟨vs, rfl, h.kill id⟩
theorem RCs.kill (id : Nat) : ∀ {ds : List Cv} {vs : List Value}, RCs γ S w ds vs → RCs γ S w (ds.map (Cv.kill id)) vs
  | [], [], _ => trivial
  | _ :: _, _ :: _, ⟨h, r⟩ => ⟨h.kill id, RCs.kill id r⟩
theorem RV.kill {d : SV} {v : Value} (id : Nat) (h : RV γ S w d v) : RV γ S w (d.kill id) v := by
  cases d with
  | c d => exact RC.kill id h
  | tup ds => obtain ⟨vs, rfl, h⟩ := h; exact ⟨vs, rfl, h.kill id⟩
theorem REs.kill (id : Nat) : ∀ {ds : List (Int × Cv)} {vs : List MapEntry}, REs γ S w ds vs → REs γ S w (ds.map fun x => (x.1, x.2.kill id)) vs
  | [], [], _ => trivial
  | (_, _) :: _, _ :: _, ⟨k, h, r⟩ => ⟨k, h.kill id, REs.kill id r⟩
theorem kill_flatten (id : Nat) (rs : List (List D)) : (rs.map (fun r => r.map (D.kill id))).flatten = rs.flatten.map (D.kill id) := by
  induction rs with
  | nil => rfl
  | cons r rs ih => rw [List.map_cons, List.flatten_cons, List.flatten_cons, List.map_append, ih]
theorem RO.kill {i : Nat} {o : O} (id : Nat) (h : RO γ S w i o) : RO γ S w i (o.kill id) := by
  cases h with
  | box hg hh hr hS => exact .box hg hh (hr.kill id) hS
  | nil hg => exact .nil hg
  | row hg hcap h0 hbig hh hrest hsz hr hS =>
    rename_i e sz rs b cap vs rest
    have hl : (rs.map (fun r => r.map (D.kill id))).length = rs.length := List.length_map _
    refine .row (vs := vs) (rest := rest) (by rw [hl]; exact hg) (by rw [hl]; exact hcap) h0 (by rw [hl]; exact hbig) hh (by rw [hl]; exact hrest) (fun r hr' => ?_) (by rw [kill_flatten]; exact hr.kill id) hS
    obtain ⟨r0, h1, rfl⟩ := List.mem_map.1 hr'
    rw [List.length_map]; exact hsz r0 h1
  | mp hg hh hr hS => exact .mp hg hh (hr.kill id) hS
  | mi hg hh hr hS => exact .mi hg hh hr hS
  | mb hg hh hr hS => exact .mb hg hh hr hS
  | it hg hh hS => exact .it hg hh hS
theorem lk_killL : ∀ (l : List (Nat × SV)) (id d : Nat), lk (killL l id) d = (lk l d).map (SV.kill id)
  | [], _, _ => rfl
  | (k, v) :: r, id, d => by simp only [killL, lk_cons, lk_killL r id d]; split <;> rfl
theorem mem_killH : ∀ {h : Heap} {id i : Nat} {x : O}, (i, x) ∈ killH h id → ∃ y, (i, y) ∈ h ∧ x = y.kill id
  | [], _, _, _, h => by simp [killH] at h
  | (k, v) :: r, id, i, x, h => by
    rcases List.mem_cons.1 h with he | h
    · cases he; exact ⟨v, List.mem_cons_self, rfl⟩
    · obtain ⟨y, h1, h2⟩ := mem_killH h; exact ⟨y, List.mem_cons_of_mem _ h1, h2⟩
theorem killH_keys : ∀ (h : Heap) (id : Nat), (killH h id).map (·.1) = h.map (·.1)
  | [], _ => rfl
  | (k, v) :: r, id => by simp [killH, killH_keys r id]
theorem mem_killH_of : ∀ {h : Heap} (id : Nat) {i : Nat} {x : O}, (i, x) ∈ h → (i, x.kill id) ∈ killH h id
  | [], _, _, _, h => by simp at h
  | (k, v) :: r, id, i, x, h => by
    rcases List.mem_cons.1 h with he | h
    · cases he; exact List.mem_cons_self
    · exact List.mem_cons_of_mem _ (mem_killH_of id h)

theorem Rep.kill (hR : Rep e γ S s a w) (id : Nat) : Rep e γ S (s.kill id) a w := by
  refine { size := hR.size, defers := hR.defers, slots := ?_, heap := ?_, fresh := ?_, kept := hR.kept, sw := hR.sw, s0 := hR.s0, sin := hR.sin, own := ?_, gam := hR.gam, ids := ?_, nx := hR.nx, h0 := hR.h0, rows := ?_, new := hR.new }
  · intro d v h
    simp only [St.kill, lk_killL] at h
    cases hl : lk s.sl d with
    | none => rw [hl] at h; cases h
    | some u => rw [hl] at h; simp at h; subst h; exact (hR.slots d u hl).kill id
  · refine { obj := ?_, apart := ?_, keys := by simp only [St.kill, killH_keys]; exact hR.heap.keys }
    · intro i x h
      obtain ⟨y, h1, rfl⟩ := mem_killH h
      exact (hR.heap.obj i y h1).kill id
    · intro i x i' x' h1 h2 hne
      obtain ⟨y, h3, _⟩ := mem_killH h1
      obtain ⟨y', h4, _⟩ := mem_killH h2
      exact hR.heap.apart i y i' y' h3 h4 hne
  · intro i x h; obtain ⟨y, h1, _⟩ := mem_killH h; exact hR.fresh i y h1
  · intro i x b h; obtain ⟨y, h1, _⟩ := mem_killH h; exact hR.own i y b h1
  · intro i x h; obtain ⟨y, h1, _⟩ := mem_killH h; exact hR.ids i y h1
  · intro i x h h2 h3
    obtain ⟨y, h1, rfl⟩ := mem_killH h
    exact hR.rows i y h1 h2 (by cases y <;> first | exact h3 | cases h3)

theorem Cv.kill_has (id : Nat) (x : Cv) : (x.kill id).has id = false := by
  cases x with
  | one d => exact D.kill_has id d
  | agg ds =>
    simp only [Cv.kill, Cv.has, List.any_map, List.any_eq_false]
    intro d _; simp [D.kill_has]
theorem SV.kill_has (id : Nat) (x : SV) : (x.kill id).has id = false := by
  cases x with
  | c x => exact Cv.kill_has id x
  | tup l =>
    simp only [SV.kill, SV.has, List.any_map, List.any_eq_false]
    intro d _; simp [Cv.kill_has]
theorem O.kill_has (id : Nat) (x : O) : (x.kill id).has id = false := by
  cases x with
  | box t cs =>
    simp only [O.kill, O.has, List.any_map, List.any_eq_false]
    intro d _; simp [D.kill_has]
  | row e sz rs =>
    simp only [O.kill, O.has, List.any_map, List.any_eq_false]
    intro r _
    simp [D.kill_has]
  | mp es =>
    simp only [O.kill, O.has, List.any_map, List.any_eq_false]
    intro d _; simp [Cv.kill_has]
  | mi => rfl
  | mb => rfl
  | it => rfl

/-- A row has grown: in its block, or in a new one. Nothing leads to it any more but what is told anew. -/
theorem Rep.grown (hR : Rep e γ S s a w) {id : Nat} {o : O} (hm : (id, o) ∈ s.h) (hrow : o.isRow = true) {o' : O} {val : Value} (hos : w'.os = w.os) (ht : w'.tape = w.tape ∧ w.drawn ≤ w'.drawn) (hou : w'.output = w.output)
    (hsz : w.heap.size ≤ w'.heap.size) (hk : ∀ k, k < w.heap.size → blk γ id ≠ some k → w'.heap[k]? = w.heap[k]?) (hb : ∀ b, vblk val = some b → blk γ id = some b ∨ w.heap.size ≤ b)
    (hro : RO (upd γ id val) S w' id o') : Rep e (upd γ id val) S { s.kill id with h := setO (killH s.h id) id o' } a w' := by
  have hK := hR.kill id
  have hidn : id < s.nx := hR.fresh _ _ hm
  have hup : ∀ i, i ≠ id → upd γ id val i = γ i := fun i h => by unfold upd; rw [if_neg h]
  have hnew : upd γ id val id = some val := by unfold upd; rw [if_pos rfl]
  have hsame : Same S w w' := fun k hkS => hk k (hR.sw k hkS) (fun he => ((hR.heap.obj _ _ hm).blk_lt he).2 hkS)
  have hblk : ∀ i, i ≠ id → blk (upd γ id val) i = blk γ i := fun i h => by unfold blk; rw [hup i h]
  have hbid : ∀ b, blk (upd γ id val) id = some b → blk γ id = some b ∨ w.heap.size ≤ b := fun b h => hb b (by simpa [blk, hnew] using h)
  have hkeys : ((killH s.h id).map (·.1)).Nodup := by rw [killH_keys]; exact hR.heap.keys
  have hmem : ∀ i x, (i, x) ∈ setO (killH s.h id) id o' → ∃ y, (i, y) ∈ s.h := by
    intro i x h
    rcases mem_setO hkeys h with ⟨rfl, _, y, hy⟩ | ⟨_, h2⟩
    · obtain ⟨y', h3, _⟩ := mem_killH hy; exact ⟨y', h3⟩
    · obtain ⟨y', h3, _⟩ := mem_killH h2; exact ⟨y', h3⟩
  refine { size := hR.size, defers := hR.defers, slots := ?_, heap := ?_, fresh := ?_, kept := ?_, sw := ?_, s0 := hR.s0, sin := hR.sin, own := ?_, gam := ?_, ids := ?_, nx := hR.nx, h0 := hR.h0, rows := ?_, new := ?_ }
  · intro d v h
    have h1 := hK.slots d v h
    have h2 : v.has id = false := by
      simp only [St.kill, lk_killL] at h
      cases hl : lk s.sl d with
      | none => rw [hl] at h; cases h
      | some u => rw [hl] at h; simp at h; subst h; exact SV.kill_has id u
    exact h1.move hsame (fun _ h => h) (fun i hi _ _ => hup i (fun he => by rw [he, h2] at hi; cases hi))
  · refine { obj := ?_, apart := ?_, keys := by rw [setO_keys]; exact hkeys }
    · intro i x h
      rcases mem_setO hkeys h with ⟨rfl, rfl, _⟩ | ⟨h1, h2⟩
      · exact hro
      · obtain ⟨y, h3, rfl⟩ := mem_killH h2
        have h4 := hK.heap.obj i _ h2
        refine h4.move hsame (fun _ h => h) (fun j hj _ _ => hup j (fun he => by rw [he, O.kill_has] at hj; cases hj)) (hup i h1) (fun c hc => ⟨hk c (h4.blk_lt hc).1 (fun he => hR.heap.apart _ _ _ _ h3 hm h1 c hc he), fun h => h⟩)
    · intro i x i' x' h1 h2 hne c hc hc'
      obtain ⟨y, h3⟩ := hmem i x h1
      obtain ⟨y', h4⟩ := hmem i' x' h2
      by_cases he : i = id
      · subst he
        rw [hblk i' (Ne.symm hne)] at hc'
        rcases hbid c hc with h | h
        · exact hR.heap.apart _ _ _ _ h3 h4 hne c h hc'
        · have := ((hR.heap.obj _ _ h4).blk_lt hc').1; omega
      · rw [hblk i he] at hc
        by_cases he' : i' = id
        · subst he'
          rcases hbid c hc' with h | h
          · exact hR.heap.apart _ _ _ _ h3 h4 hne c hc h
          · have := ((hR.heap.obj _ _ h3).blk_lt hc).1; omega
        · rw [hblk i' he'] at hc'
          exact hR.heap.apart _ _ _ _ h3 h4 hne c hc hc'
  · intro i x h; obtain ⟨y, hy⟩ := hmem i x h; exact hR.fresh i y hy
  · refine hR.kept.trans hos ht hou hsz (fun k hk0 hE => hk k (Nat.lt_of_lt_of_le hk0 hR.kept.size) (fun he => ?_))
    rcases hR.own _ _ _ hm he with h | h
    · exact hE ⟨_, h⟩
    · omega
  · intro k h; have := hR.sw k h; omega
  · intro i x c h hc
    obtain ⟨y, hy⟩ := hmem i x h
    by_cases he : i = id
    · subst he
      rcases hbid c hc with h | h
      · exact hR.own _ _ _ hy h
      · right; have := hR.kept.size; omega
    · rw [hblk i he] at hc; exact hR.own _ _ _ hy hc
  · intro i h1 h2
    have : i ≠ id := by
      rintro rfl
      rcases hR.ids _ _ hm with h | h
      · exact h2 (hR.rows _ _ hm h hrow)
      · omega
    rw [hup i this]; exact hR.gam i h1 h2
  · intro i x h; obtain ⟨y, hy⟩ := hmem i x h; exact hR.ids i y hy
  · intro i x h h1 h2
    rcases mem_setO hkeys h with ⟨rfl, rfl, _⟩ | ⟨_, h3⟩
    · exact hR.rows _ _ hm h1 hrow
    · obtain ⟨y, h4, rfl⟩ := mem_killH h3
      exact hR.rows i y h4 h1 (by cases y <;> first | exact h2 | cases h2)
  · intro i h
    simp only [St.kill] at h
    rw [hup i (by omega)]; exact hR.new i h
end
end Go.Fw
/- The framework, part 9: a struct that is built; new objects; stores, maps' entries, append. -/
set_option linter.unusedVariables false
set_option linter.unusedSimpArgs false
namespace Go.Fw
open Go

def splice (cs : List D) (off : Nat) (xs : List D) : List D :=
  bif Nat.beq off 0 && Nat.beq xs.length cs.length then xs else cs.take off ++ xs ++ cs.drop (off + xs.length)
theorem splice_eq (cs : List D) (off : Nat) (xs : List D) : splice cs off xs = cs.take off ++ xs ++ cs.drop (off + xs.length) := by
  unfold splice
  cases h : Nat.beq off 0 && Nat.beq xs.length cs.length with
  | false => rfl
  | true =>
    simp only [Bool.and_eq_true] at h
    have h1 := Nat.eq_of_beq_eq_true h.1
    have h2 := Nat.eq_of_beq_eq_true h.2
    subst h1
    simp only [cond_true, List.take_zero, List.nil_append, Nat.zero_add, h2]
    rw [List.drop_of_length_le (by omega), List.append_nil]
def fillD (s : St) (place : Nat → Option (Nat × Nat)) : List D → List (Nat × Operand) → Option (List D)
  | cs, [] => some cs
  | cs, (i, x) :: r => match place i, s.op x with
    | some (off, size), some v => match s.cellsOf v with
      | some xs => bif Nat.beq xs.length size && Nat.ble (off + size) cs.length then fillD s place (splice cs off xs) r else none
      | none => none
    | _, _ => none
def placesOf (T : Tab) : List (Nat × TypeId) → Option (List (Nat × Nat))
  | [] => some []
  | (off, t) :: r => match T t, placesOf T r with
    | some i, some ps => some ((off, i.sz) :: ps)
    | _, _ => none
def builtD (T : Tab) (s : St) (t : TypeId) (parts : List (Nat × Operand)) : Option (List D) :=
  match T t with
  | some i => match i.zero, i.k with
    | some z, .strct fs => match placesOf T fs with
      | some ps => fillD s (fun n => ps[n]?) (z.cells.toList.map cstD) parts
      | none => none
    | some z, .array n e => match T e with
      | some j => fillD s (fun n => some (n * j.sz, j.sz)) (z.cells.toList.map cstD) parts
      | none => none
    | _, _ => none
  | none => none

theorem foldl_set : ∀ (xs : List Value) (k off : Nat) (cells : Array Value), off + k + xs.length ≤ cells.size →
    (xs.zipIdx k).foldl (fun cs p => cs.setIfInBounds (off + p.2) p.1) cells = (cells.toList.take (off + k) ++ xs ++ cells.toList.drop (off + k + xs.length)).toArray
  | [], k, off, cells, _ => by simp
  | x :: xs, k, off, cells, h => by
    have hlt : off + k < cells.size := by simp at h; omega
    rw [List.zipIdx_cons, List.foldl_cons, foldl_set xs (k + 1) off _ (by rw [Array.size_setIfInBounds]; rw [List.length_cons] at h; omega)]
    have h1 : (cells.toList.set (off + k) x).take (off + (k + 1)) = cells.toList.take (off + k) ++ [x] := by
      rw [← Nat.add_assoc, List.take_succ_eq_append_getElem (by simpa using hlt), List.take_set_of_le (Nat.le_refl _), List.getElem_set_self]
    have h2 : (cells.toList.set (off + k) x).drop (off + (k + 1) + xs.length) = cells.toList.drop (off + k + (x :: xs).length) := by
      rw [List.drop_set_of_lt (by omega), List.length_cons]
      congr 1; omega
    simp only [Array.toList_setIfInBounds, h1, h2, List.append_assoc, List.singleton_append, List.cons_append, List.nil_append]

section
variable {P : Program} {T : Tab} (hT : T.OK P) {e : Env} {γ : Nat → Option Value} {S : Nat → Prop} {s : St} {a : Act} {w : World} (hR : Rep e γ S s a w)
include hR in
theorem fill_run {place : Nat → Option (Nat × Nat)} : ∀ {parts : List (Nat × Operand)} {cs ds : List D} {cells : Array Value}, fillD s place cs parts = some ds → RDs γ S w cs cells.toList →
    ∃ out : Array Value, Instr.fill place cells (parts.map fun p => (p.1, a.eval p.2)) = some out ∧ RDs γ S w ds out.toList
  | [], cs, ds, cells, h, hr => by
    simp only [fillD, Option.some.injEq] at h; subst h
    exact ⟨cells, rfl, hr⟩
  | (i, x) :: r, cs, ds, cells, h, hr => by
    unfold fillD at h
    split at h
    · rename_i off size v hp hx
      split at h
      · rename_i xs hxs
        cases hb : (Nat.beq xs.length size && Nat.ble (off + size) cs.length) with
        | false => rw [hb] at h; cases h
        | true =>
          rw [hb] at h
          simp only [cond_true] at h
          simp only [Bool.and_eq_true] at hb
          have h1 := Nat.eq_of_beq_eq_true hb.1
          have h2 := Nat.le_of_ble_eq_true hb.2
          obtain ⟨vs, hv, hvr, _⟩ := hR.cellsOf hxs (hR.op hx)
          have hl := hvr.length
          have hl2 := hr.length
          have hf := foldl_set vs 0 off cells (by simp at hl2 ⊢; omega)
          have hr2 : RDs γ S w (splice cs off xs) (cells.toList.take off ++ vs ++ cells.toList.drop (off + vs.length)) := by
            rw [splice_eq, hl]
            exact (RDs.append (RDs.append (hr.take off) hvr) (hr.drop _))
          obtain ⟨out, h3, h4⟩ := fill_run (cells := (cells.toList.take off ++ vs ++ cells.toList.drop (off + vs.length)).toArray) h (by simpa using hr2)
          refine ⟨out, ?_, h4⟩
          simp only [List.map_cons, Instr.fill, hp, hv, List.size_toArray]
          rw [if_neg (by simp at hl2 ⊢; omega)]
          have h5 : Array.foldl (fun cs x => cs.setIfInBounds (off + x.2) x.1) cells vs.toArray.zipIdx = (cells.toList.take off ++ vs ++ cells.toList.drop (off + vs.length)).toArray := by
            rw [← Array.foldl_toList]
            simp only [Array.toList_zipIdx]
            simpa using hf
          rw [h5]; exact h3
      · cases h
    · cases h
include hT in
theorem placesOf_run : ∀ {fs : List Field} {ps : List (Nat × Nat)}, placesOf T (fs.map fun f => (f.offset, f.type)) = some ps → fs.mapM (fun f => (P.info? f.type).map fun i => (f.offset, i.size)) = some ps
  | [], ps, h => by simp [placesOf] at h; subst h; rfl
  | f :: fs, ps, h => by
    simp only [List.map_cons, placesOf] at h
    split at h
    · rename_i i ps' hi hp
      simp only [Option.some.injEq] at h; subst h
      obtain ⟨info, h1, h2, _⟩ := Tab.typeInfo hT hi
      have ih := placesOf_run hp
      simp only [List.mapM_cons, h1, Option.map_some, Option.bind_eq_bind, Option.bind_some, ih, Option.pure_def, h2]
    · cases h
include hT hR in
theorem build_run {t : TypeId} {parts : Array (Nat × Operand)} {ds : List D} (h : builtD T s t parts.toList = some ds) :
    ∃ out : List Value, (Instr.build t (parts.map fun (i, x) => (i, a.eval x))).run P w = .ok (.agg out.toArray) w ∧ RDs γ S w ds out := by
  unfold builtD at h
  have hparts : (parts.map fun (i, x) => (i, a.eval x)).toList = parts.toList.map fun p => (p.1, a.eval p.2) := by simp
  split at h
  · rename_i i hi
    obtain ⟨info, h1, h2, h3, h4⟩ := Tab.typeInfo hT hi
    split at h
    · rename_i z fs hz hk
      split at h
      · rename_i ps hps
        obtain ⟨fl, hu, hfl⟩ := Tab.strct hT hi hk
        rw [← hfl] at hps
        have hm := placesOf_run hT hps
        obtain ⟨out, h5, h6⟩ := fill_run hR (cells := z.cells) h (RDs.cst _)
        refine ⟨out.toList, ?_, h6⟩
        rw [Array.toArray_toList]
        refine run_build w t _ out ?_
        simp only [Program.built, h1, hu, h4, hz, hm, hparts]
        rw [← h5]
        congr 1
        funext n; simp
      · cases h
    · rename_i z n el hz hk
      split at h
      · rename_i j hj
        have hu := Tab.array hT hi hk
        obtain ⟨ij, h7, h8, _⟩ := Tab.typeInfo hT hj
        obtain ⟨out, h5, h6⟩ := fill_run hR (cells := z.cells) h (RDs.cst _)
        refine ⟨out.toList, ?_, h6⟩
        rw [Array.toArray_toList]
        refine run_build w t _ out ?_
        simp only [Program.built, h1, hu, h4, hz, h7, hparts, h8]
        exact h5
      · cases h
    · cases h
  · cases h
end
end Go.Fw
/- The framework, part 10: the operations that make or turn an object. -/
set_option linter.unusedVariables false
set_option linter.unusedSimpArgs false
namespace Go.Fw
open Go

/-- A literal slice's rows: one part a row, in order. -/
def litRows (s : St) (sz : Nat) : Nat → List (Nat × Operand) → Option (List (List D))
  | _, [] => some []
  | n, (i, x) :: r => match s.op x with
    | some v => match s.cellsOf v, litRows s sz (n + 1) r with
      | some xs, some rs => bif Nat.beq i n && Nat.beq xs.length sz then some (xs :: rs) else none
      | _, _ => none
    | none => none
/-- The object that an operation makes, and what leads to it. -/
def newOp (T : Tab) (s : St) (o : Oper) : Option (O × D) :=
  match o.op with
  | .alloc t => match T t with
    | some i => match i.zero with
      | some z => some (.box t (z.cells.toList.map cstD), .ref s.nx 0)
      | none => none
    | none => none
  | .box t x => match s.op x with
    | some v => match s.cellsOf v with
      | some cs => some (.box t cs, .ref s.nx 0)
      | none => none
    | none => none
  | .buildSlice t n parts => match T t with
    | some i => match i.k with
      | .slice el => match T el with
        | some j => match litRows s j.sz 0 parts.toList with
          | some rs => bif Nat.beq rs.length n && Nat.ble (n * j.sz) 16777216 && Nat.ble n 100000 && (match j.zero with | some z => Nat.beq z.cells.size j.sz | none => false) then some (.row el j.sz rs, .base s.nx) else none
          | none => none
        | none => none
      | _ => none
    | none => none
  | .makeMap t none => match T t with
    | some i => match i.k with
      | .map kt vt => match T vt with
        | some j => match j.k with
          | .int k => some (.mi k [], .base s.nx)
          | .bool => some (.mb [], .base s.nx)
          | _ => some (.mp [], .base s.nx)
        | none => none
      | _ => none
    | none => none
  | .range t x => match T t, s.op x with
    | some i, some (.c (.one (.data (.lit (.string z))))) => match i.k with
      | .str => some (.it z 0, .ref s.nx 0)
      | _ => none
    | _, _ => none
  | _ => none

section
variable {P : Program} {T : Tab} (hT : T.OK P) {e : Env} {γ : Nat → Option Value} {S : Nat → Prop} {s : St} {a : Act} {w : World} (hR : Rep e γ S s a w)
theorem upd_self (γ : Nat → Option Value) (id : Nat) (v : Value) : upd γ id v id = some v := by unfold upd; rw [if_pos rfl]
include hR in
theorem RDs.to_new {v : Value} {ob : Obj} {cs : List D} {vs : List Value} (h : RDs γ S w cs vs) : RDs (upd γ s.nx v) S (w.alloc ob) cs vs :=
  h.move (Same.alloc w ob S hR.sw) (fun _ h => h) (fun id _ u hu => by
    unfold upd; rw [if_neg]; rintro rfl
    rw [hR.new _ (Nat.le_refl _)] at hu; cases hu)
include hR in
theorem RO.box_new {t : TypeId} {cs : List D} {vs : List Value} (h : RDs γ S w cs vs) : RO (upd γ s.nx (.pointer (some ⟨w.heap.size, 0, none⟩))) S (w.alloc (.cells vs.toArray t (0, 0))) s.nx (.box t cs) :=
  .box (upd_self _ _ _) (heap_alloc_new w _) (h.to_new hR) (fun hS => by have := hR.sw _ hS; omega)
theorem fill_rows (z : Array Value) (sz : Nat) : ∀ (rows : List (List Value)) (n k : Nat) (cells : Array Value), (∀ r, r ∈ rows → r.length = sz) → cells.size = n * sz → k + rows.length ≤ n →
    ∀ vals : List (Nat × Value), vals.map (·.1) = (List.range' k rows.length) → vals.map (·.2.cells.toList) = rows →
    Instr.fill (fun i => some (i * sz, sz)) cells vals = some (cells.toList.take (k * sz) ++ rows.flatten ++ cells.toList.drop ((k + rows.length) * sz)).toArray
  | [], n, k, cells, _, hc, _, vals, h1, h2 => by
    obtain rfl : vals = [] := by simpa using h2
    simp [Instr.fill]
  | r :: rows, n, k, cells, hr, hc, hle, vals, h1, h2 => by
    cases vals with
    | nil => simp at h2
    | cons p vals =>
      obtain ⟨i, v⟩ := p
      simp only [List.map_cons, List.length_cons, List.range'_succ, List.cons.injEq] at h1 h2
      obtain ⟨rfl, h1⟩ := h1
      obtain ⟨h3, h2⟩ := h2
      have hrl : r.length = sz := hr r List.mem_cons_self
      have hvs : v.cells.size = sz := by rw [← hrl, ← h3]; simp
      have hlen : (i + 1) * sz ≤ n * sz := Nat.mul_le_mul_right _ (by simp at hle; omega)
      rw [Nat.succ_mul] at hlen
      simp only [Instr.fill]
      rw [if_neg (by simp only [hvs, ne_eq, not_true_eq_false, false_or, Bool.or_eq_true, decide_eq_true_eq, bne_iff_ne]; omega)]
      have hf := foldl_set r 0 (i * sz) cells (by rw [hrl]; omega)
      have h5 : Array.foldl (fun cs x => cs.setIfInBounds (i * sz + x.2) x.1) cells v.cells.zipIdx = (cells.toList.take (i * sz) ++ r ++ cells.toList.drop (i * sz + sz)).toArray := by
        rw [← Array.foldl_toList]
        simp only [Array.toList_zipIdx, h3]
        simpa [hrl] using hf
      rw [h5, fill_rows z sz rows n (i + 1) _ (fun r hr' => hr r (List.mem_cons_of_mem _ hr')) (by simp [hrl]; omega) (by simp at hle ⊢; omega) vals h1 h2]
      congr 2
      have hd : (i + 1) * sz = i * sz + sz := Nat.succ_mul i sz
      have ht : (List.take (i * sz) cells.toList).length = i * sz := by simp; omega
      have e1 : List.take ((i + 1) * sz) (List.take (i * sz) cells.toList ++ r ++ List.drop (i * sz + sz) cells.toList) = List.take (i * sz) cells.toList ++ r := by
        have h7 : (i + 1) * sz = (List.take (i * sz) cells.toList ++ r).length := by rw [List.length_append, ht, hrl, hd]
        rw [h7, List.take_left]
      have e2 : List.drop ((i + 1 + rows.length) * sz) (List.take (i * sz) cells.toList ++ r ++ List.drop (i * sz + sz) cells.toList) = List.drop ((i + (r :: rows).length) * sz) cells.toList := by
        have h6 : (i + 1 + rows.length) * sz = (List.take (i * sz) cells.toList ++ r).length + rows.length * sz := by rw [List.length_append, ht, hrl, Nat.add_mul, hd]
        rw [h6, ← List.drop_drop, List.drop_left, List.drop_drop]
        congr 1
        rw [List.length_cons, Nat.add_mul, Nat.succ_mul]; omega
      simp only [List.toList_toArray]
      rw [e1, e2]
      simp only [List.flatten_cons, List.append_assoc]

include hR in
theorem litRows_run {sz : Nat} : ∀ {parts : List (Nat × Operand)} {rs : List (List D)} {k : Nat}, litRows s sz k parts = some rs →
    ∃ rows : List (List Value), (parts.map fun p => (p.1, a.eval p.2)).map (·.1) = List.range' k rows.length ∧ (parts.map fun p => (p.1, a.eval p.2)).map (·.2.cells.toList) = rows ∧ rows.length = rs.length ∧
      (∀ r, r ∈ rows → r.length = sz) ∧ (∀ r, r ∈ rs → r.length = sz) ∧ RDs γ S w rs.flatten rows.flatten
  | [], rs, k, h => by
    simp only [litRows, Option.some.injEq] at h; subst h
    exact ⟨[], rfl, rfl, rfl, by simp, by simp, trivial⟩
  | (i, x) :: r, rs, k, h => by
    unfold litRows at h
    split at h
    · rename_i v hx
      split at h
      · rename_i xs rs' hxs hr
        cases hb : (Nat.beq i k && Nat.beq xs.length sz) with
        | false => rw [hb] at h; cases h
        | true =>
          rw [hb] at h
          simp only [cond_true, Option.some.injEq] at h; subst h
          simp only [Bool.and_eq_true] at hb
          obtain rfl := Nat.eq_of_beq_eq_true hb.1
          have h1 := Nat.eq_of_beq_eq_true hb.2
          obtain ⟨vs, hv, hvr, _⟩ := hR.cellsOf hxs (hR.op hx)
          obtain ⟨rows, h2, h3, h4, h5, h6, h7⟩ := litRows_run hr
          refine ⟨vs :: rows, ?_, ?_, by simp [h4], ?_, ?_, ?_⟩
          · simp only [List.map_cons, List.length_cons, List.range'_succ, h2]
          · simp only [List.map_cons, h3, hv, List.toList_toArray]
          · intro r' hr'
            rcases List.mem_cons.1 hr' with rfl | hr'
            · rw [← hvr.length, h1]
            · exact h5 _ hr'
          · intro r' hr'
            rcases List.mem_cons.1 hr' with rfl | hr'
            · exact h1
            · exact h6 _ hr'
          · rw [List.flatten_cons, List.flatten_cons]; exact RDs.append hvr h7
      · cases h
    · cases h

include hT hR in
theorem newOp_run {o : Oper} {ob : O} {d : D} (h : newOp T s o = some (ob, d)) :
    ∃ x val, (execOp a.eval o).run P w = .ok (.value val) (w.alloc x) ∧ RO (upd γ s.nx val) S (w.alloc x) s.nx ob ∧ (∀ b, vblk val = some b → b = w.heap.size) ∧ RD (upd γ s.nx val) S (w.alloc x) d val := by
  have hptr : ∀ b, vblk (.pointer (some ⟨w.heap.size, 0, none⟩)) = some b → b = w.heap.size := by intro b h; simp [vblk] at h; exact h.symm
  have hmapb : ∀ b, vblk (.map (some w.heap.size)) = some b → b = w.heap.size := by intro b h; simp [vblk] at h; exact h.symm
  have href : ∀ x : Obj, RD (upd γ s.nx (.pointer (some ⟨w.heap.size, 0, none⟩))) S (w.alloc x) (.ref s.nx 0) (.pointer (some ⟨w.heap.size, 0, none⟩)) := fun x => .ref (by simp [blk, upd_self, vblk])
  unfold newOp at h
  split at h
  · rename_i t ho
    split at h
    · rename_i i hi
      split at h
      · rename_i z hz
        simp only [Option.some.injEq, Prod.mk.injEq] at h; obtain ⟨rfl, rfl⟩ := h
        refine ⟨.cells z.cells.toList.toArray t (0, 0), _, ?_, RO.box_new hR (RDs.cst _), hptr, href _⟩
        rw [Array.toArray_toList]
        simp only [execOp, ho, Instr.alloc, Sem.run_bind, Tab.zero hT w hi hz, Result.andThen_ok, newVar, newRow, run_newObj_alloc, Sem.run_pure]
      · cases h
    · cases h
  · rename_i t x ho
    split at h
    · rename_i v hx
      split at h
      · rename_i cs hcs
        simp only [Option.some.injEq, Prod.mk.injEq] at h; obtain ⟨rfl, rfl⟩ := h
        obtain ⟨vs, hv, hvr, _⟩ := hR.cellsOf hcs (hR.op hx)
        refine ⟨.cells vs.toArray t (0, 0), _, ?_, RO.box_new hR hvr, hptr, href _⟩
        simp only [execOp, ho, Instr.box, Sem.run_bind, newVar, newRow, run_newObj_alloc, Result.andThen_ok, Sem.run_pure, hv]
      · cases h
    · cases h
  · rename_i t n parts ho
    split at h
    · rename_i i hi
      split at h
      · rename_i el hk
        split at h
        · rename_i j hj
          split at h
          · rename_i rs hrs
            cases hb : (Nat.beq rs.length n && Nat.ble (n * j.sz) 16777216 && Nat.ble n 100000 && (match j.zero with | some z => Nat.beq z.cells.size j.sz | none => false)) with
            | false => rw [hb] at h; cases h
            | true =>
              rw [hb] at h
              simp only [cond_true, Option.some.injEq, Prod.mk.injEq] at h; obtain ⟨rfl, rfl⟩ := h
              simp only [Bool.and_eq_true] at hb
              obtain ⟨⟨⟨hb1, hb2⟩, hb4⟩, hb3⟩ := hb
              obtain rfl := Nat.eq_of_beq_eq_true hb1
              have hle := Nat.le_of_ble_eq_true hb2
              have hle2 := Nat.le_of_ble_eq_true hb4
              cases hz : j.zero with
              | none => rw [hz] at hb3; cases hb3
              | some z =>
                rw [hz] at hb3
                have hzs := Nat.eq_of_beq_eq_true hb3
                obtain ⟨rows, h2, h3, h4, h5, h6, h7⟩ := litRows_run hR hrs
                have hu := Tab.slice hT hi hk
                have hfl : ∀ l : List (List Value), (∀ r, r ∈ l → r.length = j.sz) → l.flatten.length = l.length * j.sz := by
                  intro l
                  induction l with
                  | nil => simp
                  | cons r l ih =>
                    intro hl
                    simp only [List.flatten_cons, List.length_append, List.length_cons, ih (fun r hr => hl r (List.mem_cons_of_mem _ hr)), hl r List.mem_cons_self, Nat.succ_mul]
                    omega
                have hrun : ∀ cells : Array Value, cells.size = rs.length * j.sz → Instr.fill (fun i => some (i * j.sz, j.sz)) cells (parts.map fun (i, x) => (i, a.eval x)).toList = some rows.flatten.toArray := by
                  intro cells hcs
                  have := fill_rows z.cells j.sz rows rs.length 0 cells h5 hcs (by omega) _ h2 h3
                  simp only [Nat.zero_mul, List.take_zero, List.nil_append, Nat.zero_add, h4] at this
                  rw [List.drop_of_length_le (by simp [hcs]), List.append_nil] at this
                  rw [← this]; congr 1; simp
                refine ⟨.cells rows.flatten.toArray el (0, 0), .slice (some ⟨w.heap.size, 0, none⟩) rs.length rs.length, ?_, ?_, ?_, .base (upd_self _ _ _)⟩
                · simp only [execOp, ho, Instr.buildSlice, Sem.run_bind, run_underlying hu, Result.andThen_ok, Tab.sizeOf hT w hj]
                  rw [if_neg (by omega)]
                  by_cases h0 : rs.length * j.sz = 0
                  · rw [if_pos h0]
                    simp only [Sem.run_bind, Sem.run_pure, Result.andThen_ok]
                    have h9 := hrun ((Array.range (rs.length * j.sz)).map fun x => (#[] : Array Value)[x % (#[] : Array Value).size]!) (by simp)
                    simp only at h9
                    rw [h9]
                    simp only [Sem.run_bind, newRow, run_newObj_alloc, Result.andThen_ok, Sem.run_pure]
                  · rw [if_neg h0]
                    simp only [Sem.run_bind, Tab.zero hT w hj hz, Sem.run_pure, Result.andThen_ok]
                    have h9 := hrun ((Array.range (rs.length * j.sz)).map fun x => z.cells[x % z.cells.size]!) (by simp)
                    simp only at h9
                    rw [h9]
                    simp only [Sem.run_bind, newRow, run_newObj_alloc, Result.andThen_ok, Sem.run_pure]
                · by_cases h0 : rs.length = 0
                  · obtain rfl : rs = [] := List.eq_nil_of_length_eq_zero h0
                    exact .nil (upd_self _ _ _)
                  · refine .row (vs := rows.flatten) (rest := []) (upd_self _ _ _) (Nat.le_refl _) (by omega) (by unfold big; omega) (by rw [List.append_nil]; exact heap_alloc_new w _) (by simp) h6 (h7.to_new hR) (fun hS => by have := hR.sw _ hS; omega)
                · intro b hb'; simp only [vblk] at hb'; split at hb'
                  · cases hb'
                  · simpa using hb'.symm
          · cases h
        · cases h
      · cases h
    · cases h
  · rename_i t ho
    split at h
    · rename_i i hi
      split at h
      · rename_i kt vt hk
        have hrun : (execOp a.eval o).run P w = .ok (.value (.map (some w.heap.size))) (w.alloc (.map (List.toArray []) 0)) := by
          simp only [execOp, ho, Option.map_none, Instr.makeMap, Sem.run_bind, Sem.run_pure, Result.andThen_ok, run_newObj_alloc]
        have hS : ¬ S w.heap.size := fun hS => by have := hR.sw _ hS; omega
        split at h
        · rename_i j hj
          split at h
          · simp only [Option.some.injEq, Prod.mk.injEq] at h; obtain ⟨rfl, rfl⟩ := h
            exact ⟨_, _, hrun, .mi (en := []) (upd_self _ _ _) (heap_alloc_new w _) trivial hS, hmapb, .base (upd_self _ _ _)⟩
          · simp only [Option.some.injEq, Prod.mk.injEq] at h; obtain ⟨rfl, rfl⟩ := h
            exact ⟨_, _, hrun, .mb (en := []) (upd_self _ _ _) (heap_alloc_new w _) trivial hS, hmapb, .base (upd_self _ _ _)⟩
          · simp only [Option.some.injEq, Prod.mk.injEq] at h; obtain ⟨rfl, rfl⟩ := h
            exact ⟨_, _, hrun, .mp (en := []) (upd_self _ _ _) (heap_alloc_new w _) trivial hS, hmapb, .base (upd_self _ _ _)⟩
        · cases h
      · cases h
    · cases h
  · rename_i t x ho
    split at h
    · rename_i i z hi hx
      split at h
      · rename_i hk
        simp only [Option.some.injEq, Prod.mk.injEq] at h; obtain ⟨rfl, rfl⟩ := h
        have hu := Tab.str hT hi hk
        have hxv := litS_run rfl (hR.op hx)
        have hS : ¬ S w.heap.size := fun hS => by have := hR.sw _ hS; omega
        refine ⟨.stringIter z 0, .pointer (some ⟨w.heap.size, 0, none⟩), ?_, .it (upd_self _ _ _) (heap_alloc_new w _) hS, ?_, .ref (by simp [blk, upd_self, vblk])⟩
        · simp only [execOp, ho, hxv, Instr.range, Sem.run_bind, run_underlying hu, Sem.run_pure, Result.andThen_ok, run_newObj_alloc]
        · intro b hb'; simpa [vblk] using hb'.symm
      · cases h
    · cases h
  · cases h
end
end Go.Fw
/- The framework, part 11: stores, entries of maps, append. -/
set_option linter.unusedVariables false
set_option linter.unusedSimpArgs false
namespace Go.Fw
open Go

def updE {α : Type} : List (Int × α) → Int → α → List (Int × α)
  | [], k, v => [(k, v)]
  | (a, b) :: r, k, v => if a = k then (a, v) :: r else (a, b) :: updE r k v
def delE {α : Type} : List (Int × α) → Int → List (Int × α)
  | [], _ => []
  | (a, b) :: r, k => if a = k then r else (a, b) :: delE r k
/-- The rows that are appended: of plain data, of another row of one's own; a text's bytes. -/
def srcRows (s : St) (sz : Nat) (x : SV) : Option (Prop × List (List D)) :=
  match x with
  | .c (.one (.data (.rows sz' n f))) => some (sz' = sz ∧ (∀ i, i < n → (f i).all solidL = true), (List.range n).map fun i => (f i).map .data)
  | .c (.one (.base id)) => match lk s.h id with
    | some (.row _ sz' rs) => some (sz' = sz ∧ (rs.all fun r => r.all s.solid) = true, rs)
    | _ => none
  | .c (.one (.data (.lit (.string b)))) => some (sz = 1, b.data.toList.map fun c => [.data (.lit (.int .u8 c.toNat))])
  | .c (.one (.data (.lit (.slice none 0 0)))) => some (True, [])
  | _ => none

def effOp (T : Tab) (s : St) (o : Oper) : Option (Prop × St × Option SV) :=
  match o.op with
  | .store t x y => match T t, s.op x, s.op y with
    | some i, some (.c (.one d)), some v => match s.cellsOf v with
      | some xs => match d with
        | .ref id off => match lk s.h id with
          | some (.box bt cs) => some (xs.length = i.sz ∧ off + xs.length ≤ cs.length, { s with h := setO s.h id (.box bt (splice cs off xs)) }, none)
          | _ => none
        | .eptr id sz k j => match lk s.h id with
          | some (.row e sz' rs) => some (sz = sz' ∧ k < rs.length ∧ xs.length = i.sz ∧ j + xs.length ≤ sz, { s with h := setO s.h id (.row e sz' (rs.set k (splice ((rs.drop k).headD []) j xs))) }, none)
          | _ => none
        | _ => none
      | none => none
    | _, _, _ => none
  | .mapUpdate t m x y => match T t, s.op m, s.op x with
    | some i, some (.c (.one (.base id))), some (.c (.one (.data (.lit (.int kk z))))) => match kk, i.k, lk s.h id, s.op y with
      | .i64, .map kt vt, some ob, some v => match T kt with
        | some ik => match ik.k, ob, v with
          | .int .i64, .mi k es, .c (.one (.data (.lit (.int k' n)))) => bif kindEq k k' then some (True, { s with h := setO s.h id (.mi k (updE es z n)) }, none) else none
          | .int .i64, .mb es, .c (.one (.data (.lit (.bool b)))) => some (True, { s with h := setO s.h id (.mb (updE es z b)) }, none)
          | .int .i64, .mp es, .c cv => some (True, { s with h := setO s.h id (.mp (updE es z cv)) }, none)
          | _, _, _ => none
        | none => none
      | _, _, _, _ => none
    | _, _, _ => none
  | .call c => match c.callee, c.args.toList, c.argTypes.toList with
    | .builtin .append, [x, y], [t, t2] => match T t, T t2, s.op x, s.op y with
      | some i, some i2, some (.c (.one (.base id))), some yv => match i.k, lk s.h id with
        | .slice el, some (.row e sz rs) => match T el, srcRows s sz yv, (match i2.k with | .slice _ => true | .str => true | _ => false) with
          | some j, some (p, news), true => match j.zero with
            | some z => some (p ∧ el = e ∧ j.sz = sz ∧ z.cells.size = j.sz ∧ (rs.length + news.length) * j.bytes ≤ big ∧ rs.length + news.length ≤ big,
                { s.kill id with h := setO (killH s.h id) id ((O.row e sz (rs ++ news)).kill id) }, some (.c (.one (.base id))))
            | none => none
          | _, _, _ => none
        | _, _ => none
      | _, _, _, _ => none
    | _, _, _ => none
  | _ => none

section
variable {P : Program} {T : Tab} (hT : T.OK P) {e : Env} {γ : Nat → Option Value} {S : Nat → Prop} {s : St} {a : Act} {w : World} (hR : Rep e γ S s a w)
theorem REs.snoc : ∀ {es : List (Int × Cv)} {en : List MapEntry} {z : Int} {c : Cv} {m : MapEntry}, REs γ S w es en → m.key = .int .i64 z → RC γ S w c m.val → REs γ S w (es ++ [(z, c)]) (en ++ [m])
  | [], [], z, c, m, _, hk, hc => ⟨hk, hc, trivial⟩
  | (_, _) :: _, _ :: _, z, c, m, ⟨h1, h2, h3⟩, hk, hc => ⟨h1, h2, REs.snoc h3 hk hc⟩
theorem updE_none {α : Type} (z : Int) (c : α) : ∀ es : List (Int × α), findE es z = none → updE es z c = es ++ [(z, c)]
  | [], _ => rfl
  | (a, b) :: r, h => by
    simp only [findE] at h
    split at h
    · cases h
    · rename_i hne
      simp only [updE, if_neg hne, updE_none z c r h, List.cons_append]
theorem REs.upd (z : Int) (c : Cv) (v : Value) (hc : RC γ S w c v) : ∀ {es : List (Int × Cv)} {en : List MapEntry} (i : Nat), REs γ S w es en →
    (findE es z = none ∧ Instr.findNow (.int .i64) (.int .i64 z) en i = some none) ∨
    ∃ j v0 m, Instr.findNow (.int .i64) (.int .i64 z) en i = some (some (i + j, v0)) ∧ en[j]? = some m ∧ m.key = .int .i64 z ∧ REs γ S w (updE es z c) (en.set j { m with key := .int .i64 z, val := v })
  | [], [], i, _ => .inl ⟨rfl, rfl⟩
  | (k, d) :: r, m :: en, i, ⟨hk, hd, hr⟩ => by
    simp only [findE, Instr.findNow, hk, Instr.sameNow, if_true, updE]
    by_cases h : k = z
    · subst h
      exact .inr ⟨0, m.val, m, by simp, rfl, hk, by simp only [if_true, List.set_cons_zero]; exact ⟨rfl, hc, hr⟩⟩
    · have h' : (z == k) = false := by simp; exact fun he => h he.symm
      rw [if_neg h, if_neg h, h']
      simp only
      rcases REs.upd z c v hc (i + 1) hr with ⟨h1, h2⟩ | ⟨j, v0, m', h1, h2, h3, h4⟩
      · exact .inl ⟨h1, h2⟩
      · exact .inr ⟨j + 1, v0, m', by rw [h1]; congr 3; omega, by simpa using h2, h3, by simp only [List.set_cons_succ]; exact ⟨hk, hd, h4⟩⟩
theorem cvI_upd (k : IntKind) (z n : Int) : ∀ es : List (Int × Int), cvI k (updE es z n) = updE (cvI k es) z (.one (.data (.lit (.int k n))))
  | [] => rfl
  | (a, b) :: r => by
    have := cvI_upd k z n r
    simp only [cvI, List.map_cons, updE] at this ⊢
    split <;> simp [this]
theorem cvB_upd (z : Int) (n : Bool) : ∀ es : List (Int × Bool), cvB (updE es z n) = updE (cvB es) z (.one (.data (.lit (.bool n))))
  | [] => rfl
  | (a, b) :: r => by
    have := cvB_upd z n r
    simp only [cvB, List.map_cons, updE] at this ⊢
    split <;> simp [this]
/-- A map with other entries. -/
def setM (w : World) (r : Nat) (en : List MapEntry) (clock : Nat) : World := { w with heap := w.heap.setIfInBounds r (.map en.toArray clock) }
include hT in
theorem mapUpdate_run {t kt vt : TypeId} {i ik : TI} (hi : T t = some i) (hk : i.k = .map kt vt) (hik : T kt = some ik) (hkk : ik.k = .int .i64)
    {r : Nat} {en : List MapEntry} {clock : Nat} (hh : w.heap[r]? = some (.map en.toArray clock)) {es : List (Int × Cv)} (hr : REs γ S w es en) (z : Int) {c : Cv} {v : Value} (hc : RC γ S w c v) :
    ∃ en' clock', (Instr.mapUpdate t (.map (some r)) (.int .i64 z) v).run P w = .ok () (setM w r en' clock') ∧ REs γ S w (updE es z c) en' := by
  have hu := Tab.map hT hi hk
  have huk := Tab.int hT hik hkk
  have hck : ∀ e, (Instr.checkKey e 10000 kt (.int .i64 z)).run P w = .ok () w := by
    intro e
    show (Instr.checkKey e (9999 + 1) kt (.int .i64 z)).run P w = .ok () w
    rw [Instr.checkKey]
    simp only [Sem.run_bind, run_underlying huk, Result.andThen_ok, Sem.run_pure]
  have hg : (getObj r).run P w = .ok (.map en.toArray clock) w := by simp [getObj, Sem.run, hh]
  have hset : ∀ (en' : List MapEntry) (cl : Nat), (setObj r (.map en'.toArray cl)).run P w = .ok () (setM w r en' cl) := by
    intro en' cl; simp [setObj, Sem.run, hh, setM]
  rcases hr.upd z c v hc 0 with ⟨h1, h2⟩ | ⟨j, v0, m, h1, h2, h3, h4⟩
  · refine ⟨en ++ [{ key := .int .i64 z, val := v, born := clock }], clock + 1, ?_, by rw [updE_none _ _ _ h1]; exact hr.snoc rfl hc⟩
    simp only [Instr.mapUpdate, Sem.run_bind, run_underlying hu, Result.andThen_ok, hg, hck, Instr.findKey, run_underlying huk, List.toList_toArray, h2, Sem.run_pure]
    rw [← hset]; congr 2; simp
  · refine ⟨en.set j { m with key := .int .i64 z, val := v }, clock, ?_, h4⟩
    have hky : ((en.toArray[0 + j]?).map (·.key)).getD (.int .i64 z) = .int .i64 z := by simp [h2, h3]
    have hkt : (Instr.keyThatStays (.int .i64 z) (.int .i64 z)).run P w = .ok (.int .i64 z) w := by
      have : Instr.sameBits 10000 (.int .i64 z) (.int .i64 z) = true := by unfold Instr.sameBits; simp
      unfold Instr.keyThatStays; rw [this]; rfl
    simp only [Instr.mapUpdate, Sem.run_bind, run_underlying hu, Result.andThen_ok, hg, hck, Instr.findKey, run_underlying huk, List.toList_toArray, h1, Sem.run_pure, hky, hkt]
    rw [← hset]; congr 2
    simp only [Nat.zero_add]
    congr 1
    apply Array.ext'
    apply List.ext_getElem?
    intro n
    simp only [Array.toList_modify, List.getElem?_modify, List.getElem?_set]
    by_cases hn : j = n
    · subst hn
      rw [if_pos rfl, h2, if_pos (List.getElem?_eq_some_iff.1 h2).1]; simp
    · rw [if_neg hn]; cases en[n]? <;> simp [hn]

theorem setM_heap {r : Nat} {o : Obj} (hh : w.heap[r]? = some o) (en : List MapEntry) (clock : Nat) : (setM w r en clock).heap[r]? = some (.map en.toArray clock) := by
  have := (Array.getElem?_eq_some_iff.1 hh).1
  simp [setM, this]
theorem setM_other (r k : Nat) (h : k ≠ r) (en : List MapEntry) (clock : Nat) : (setM w r en clock).heap[k]? = w.heap[k]? := by
  simp [setM, Array.getElem?_setIfInBounds, Ne.symm h]
include hR in
theorem Rep.setM {id r : Nat} {o o' : O} (hm : (id, o) ∈ s.h) (hg : γ id = some (.map (some r))) {ob : Obj} (hh : w.heap[r]? = some ob) (en : List MapEntry) (clock : Nat) {es : List (Int × Cv)} (hkind : o'.isRow = o.isRow) (hr : REs γ S w es en)
    (hro : ∀ w' : World, w'.heap[r]? = some (.map en.toArray clock) → REs γ S w' es en → ¬ S r → RO γ S w' id o') : Rep e γ S { s with h := setO s.h id o' } a (Fw.setM w r en clock) := by
  have hb : blk γ id = some r := by simp [blk, hg, vblk]
  have hnS := ((hR.heap.obj _ _ hm).blk_lt hb).2
  refine hR.turn hm hb rfl ⟨rfl, Nat.le_refl _⟩ rfl (by simp [Fw.setM]) (fun k hk => setM_other r k hk en clock) hkind (hro _ (setM_heap hh en clock) ?_ hnS)
  exact hr.move (fun k hk => setM_other r k (fun he => hnS (he ▸ hk)) en clock) (fun _ h => h) (fun _ _ _ _ => rfl)
include hR in
/-- A store into a row of one's own. -/
theorem Rep.setRow {id b : Nat} {o o' : O} (hm : (id, o) ∈ s.h) (hb : blk γ id = some b) {cur cs : List Value} {t : TypeId} (hh : w.heap[b]? = some (.cells cur.toArray t (0, 0))) (hkind : o'.isRow = o.isRow)
    (hro : ∀ w' : World, w'.heap[b]? = some (.cells cs.toArray t (0, 0)) → Same S w w' → ¬ S b → RO γ S w' id o') : Rep e γ S { s with h := setO s.h id o' } a (w.setRow b cs.toArray) := by
  have hnS := ((hR.heap.obj _ _ hm).blk_lt hb).2
  refine hR.turn hm hb rfl ⟨rfl, Nat.le_refl _⟩ rfl (by simp [World.setRow]) (fun k hk => setRow_other w b k _ hk) hkind (hro _ (setRow_heap w b _ _ t _ hh) (fun k hk => setRow_other w b k _ (fun he => hnS (he ▸ hk))) hnS)

theorem flatten_len (sz : Nat) : ∀ l : List (List D), (∀ r, r ∈ l → r.length = sz) → l.flatten.length = l.length * sz := by
  intro l
  induction l with
  | nil => simp
  | cons r l ih =>
    intro hl
    simp only [List.flatten_cons, List.length_append, List.length_cons, ih (fun r hr => hl r (List.mem_cons_of_mem _ hr)), hl r List.mem_cons_self, Nat.succ_mul]
    omega
/-- A row with another element. -/
theorem flatten_set (sz : Nat) : ∀ (rs : List (List D)) (k : Nat) (r : List D), (∀ r, r ∈ rs → r.length = sz) → k < rs.length → r.length = sz →
    (rs.set k r).flatten = rs.flatten.take (k * sz) ++ r ++ rs.flatten.drop (k * sz + sz)
  | x :: rs, 0, r, hl, _, hr => by
    have hx := hl x List.mem_cons_self
    simp only [List.set_cons_zero, List.flatten_cons, Nat.zero_mul, List.take_zero, List.nil_append, Nat.zero_add]
    rw [← hx, List.drop_left]
  | x :: rs, k + 1, r, hl, hk, hr => by
    have hx := hl x List.mem_cons_self
    have ih := flatten_set sz rs k r (fun r hr => hl r (List.mem_cons_of_mem _ hr)) (by simpa using hk) hr
    simp only [List.set_cons_succ, List.flatten_cons, ih, Nat.succ_mul]
    have e1 : List.take (k * sz + sz) (x ++ rs.flatten) = x ++ List.take (k * sz) rs.flatten := by
      rw [show k * sz + sz = x.length + k * sz from by omega, List.take_length_add_append]
    have e2 : List.drop (k * sz + sz + sz) (x ++ rs.flatten) = List.drop (k * sz + sz) rs.flatten := by
      rw [show k * sz + sz + sz = x.length + (k * sz + sz) from by omega, List.drop_length_add_append]
    rw [e1, e2]
    simp only [List.append_assoc]

theorem get_flatten {α : Type} {sz : Nat} (h0 : 0 < sz) : ∀ (rows : List (List α)) (k : Nat), (∀ r, r ∈ rows → r.length = sz) → rows.flatten[k]? = (rows[k / sz]?).bind (·[k % sz]?)
  | [], k, _ => by simp
  | r :: rows, k, hl => by
    have hr := hl r List.mem_cons_self
    rw [List.flatten_cons]
    by_cases hk : k < sz
    · rw [List.getElem?_append_left (by omega), Nat.div_eq_of_lt hk, Nat.mod_eq_of_lt hk]; rfl
    · rw [List.getElem?_append_right (by omega), get_flatten h0 rows (k - r.length) (fun r hr => hl r (List.mem_cons_of_mem _ hr)), hr]
      have h1 : k / sz = (k - sz) / sz + 1 := by rw [Nat.div_eq k sz, if_pos ⟨h0, by omega⟩]
      have h2 : k % sz = (k - sz) % sz := by rw [Nat.mod_eq k sz, if_pos ⟨h0, by omega⟩]
      rw [h1, h2]; rfl
theorem RDs.flatten : ∀ {rs : List (List D)} {vs : List (List Value)}, rs.length = vs.length → (∀ (i : Nat) (r : List D) (v : List Value), rs[i]? = some r → vs[i]? = some v → RDs γ S w r v) → RDs γ S w rs.flatten vs.flatten
  | [], [], _, _ => trivial
  | r :: rs, v :: vs, hl, h => by
    rw [List.flatten_cons, List.flatten_cons]
    exact RDs.append (h 0 r v rfl rfl) (RDs.flatten (by simpa using hl) (fun i r v h1 h2 => h (i + 1) r v (by simpa using h1) (by simpa using h2)))
  | [], _ :: _, hl, _ => by simp at hl
  | _ :: _, [], hl, _ => by simp at hl
theorem RT.cellV {t : Fw.T} {v : Value} (hs : solidL t = true) (h : RT S w t v) : cellV v = true := by
  cases h with
  | lit v => cases v <;> first | rfl | simp [solidL] at hs
  | rows => rfl
include hR in
theorem srcRows_run {sz : Nat} {x : SV} {v : Value} {p : Prop} {rs : List (List D)} (h : srcRows s sz x = some (p, rs)) (hp : p) (hv : RV γ S w x v) :
    ∃ news : List Value, (Builtin.lenOf v).run P w = .ok rs.length w ∧ (∀ w' : World, w'.heap = w.heap → (Builtin.firstCells sz rs.length v).run P w' = .ok news.toArray w') ∧ news.length = rs.length * sz ∧
      RDs γ S w rs.flatten news ∧ (∀ r, r ∈ rs → r.length = sz) ∧ ∀ u, u ∈ news → Fw.cellV u = true := by
  have hcell : ∀ (w' : World), w'.heap = w.heap → ∀ ad, w'.cell? ad = w.cell? ad := by intro w' hw ad; simp [World.cell?, hw]
  unfold srcRows at h
  split at h
  · -- rows
    rename_i sz' n f
    simp only [Option.some.injEq, Prod.mk.injEq] at h; obtain ⟨rfl, rfl⟩ := h
    obtain ⟨rfl, hso⟩ := hp
    have hv' : RD γ S w (.data (.rows sz' n f)) v := hv
    cases hv' with
    | data hv' =>
      cases hv' with
      | rows _ _ _ A cap b off V hn hb hA hlen hc hr =>
        have hrl : ((List.range n).map fun i => (f i).map D.data).length = n := by simp
        have hrows : ∀ r, r ∈ ((List.range n).map fun i => (f i).map D.data) → r.length = sz' := by
          intro r hr'
          obtain ⟨i, hi, rfl⟩ := List.mem_map.1 hr'
          simpa using hlen i (by simpa using hi)
        let rows : List (List Value) := (List.range n).map fun i => (List.range sz').map (V i)
        have hrows2 : ∀ r, r ∈ rows → r.length = sz' := by
          intro r hr'
          obtain ⟨i, _, rfl⟩ := List.mem_map.1 hr'
          simp
        have hnl : rows.flatten.length = n * sz' := by
          have : ∀ l : List (List Value), (∀ r, r ∈ l → r.length = sz') → l.flatten.length = l.length * sz' := by
            intro l
            induction l with
            | nil => simp
            | cons r l ih =>
              intro hl
              simp only [List.flatten_cons, List.length_append, List.length_cons, ih (fun r hr => hl r (List.mem_cons_of_mem _ hr)), hl r List.mem_cons_self, Nat.succ_mul]
              omega
          rw [this _ hrows2]; simp [rows]
        have hget : ∀ i j, i < n → j < sz' → (rows[i]?).bind (·[j]?) = some (V i j) := by
          intro i j hi hj
          simp [rows, hi, hj]
        refine ⟨rows.flatten, by simp [Builtin.lenOf, hrl], ?_, by rw [hrl]; exact hnl, ?_, hrows, ?_⟩
        · intro w' hw
          rw [hrl]
          by_cases h0 : n = 0
          · subst h0
            have : rows.flatten = [] := rfl
            rw [this]
            cases A <;> simp [Builtin.firstCells, loadCells, loadCellsFrom]
          · obtain ⟨rfl, _⟩ := hA (by omega)
            refine run_firstCells_some (P := P) w' sz' n ⟨b, off, none⟩ n cap rows.flatten hnl (fun k u hk => ?_)
            rw [add_none, hcell w' hw]
            have hklt : k < n * sz' := by rw [← hnl]; exact (List.getElem?_eq_some_iff.1 hk).1
            have hs0 : 0 < sz' := by
              rcases Nat.eq_zero_or_pos sz' with h | h
              · rw [h] at hklt; omega
              · exact h
            rw [get_flatten hs0 _ _ hrows2] at hk
            have hi : k / sz' < n := Nat.div_lt_of_lt_mul (by rw [Nat.mul_comm]; exact hklt)
            have hj := Nat.mod_lt k hs0
            rw [hget _ _ hi hj] at hk
            simp only [Option.some.injEq] at hk; subst hk
            have := hc _ _ hi hj
            rw [Nat.add_assoc, Nat.mul_comm (k / sz') sz', Nat.div_add_mod] at this
            exact this
        · refine RDs.flatten (by simp [rows]) (fun i r u h1 h2 => ?_)
          simp only [List.getElem?_map, rows] at h1 h2
          cases hri : (List.range n)[i]? with
          | none => rw [hri] at h1; cases h1
          | some i' =>
            rw [hri] at h1 h2
            obtain ⟨h3, h4⟩ := List.getElem?_eq_some_iff.1 hri
            simp at h3 h4; subst h4
            simp only [Option.map_some, Option.some.injEq] at h1 h2; subst h1; subst h2
            refine RDs.of_data (RTs.of_get (by simp [hlen i h3]) (fun m d v h5 h6 => ?_))
            rw [List.getElem?_map] at h6
            cases hrm : (List.range sz')[m]? with
            | none => rw [hrm] at h6; cases h6
            | some m' =>
              rw [hrm] at h6
              obtain ⟨h7, h8⟩ := List.getElem?_eq_some_iff.1 hrm
              simp at h8; subst h8
              simp only [Option.map_some, Option.some.injEq] at h6; subst h6
              exact hr _ _ _ h3 h5
        · intro u hu
          obtain ⟨r, h1, h2⟩ := List.mem_flatten.1 hu
          obtain ⟨i, hi, rfl⟩ := List.mem_map.1 h1
          obtain ⟨j, hj, rfl⟩ := List.mem_map.1 h2
          simp at hi hj
          have hjl : j < (f i).length := by rw [hlen i hi]; exact hj
          have h3 := hr i j _ hi (List.getElem?_eq_getElem hjl)
          exact h3.cellV (by have := hso i hi; rw [List.all_eq_true] at this; exact this _ (List.getElem_mem hjl))
  · -- another row
    rename_i id
    split at h
    · rename_i et sz' rs' hl
      simp only [Option.some.injEq, Prod.mk.injEq] at h; obtain ⟨rfl, rfl⟩ := h
      obtain ⟨rfl, hso⟩ := hp
      have hob := hR.heap.obj _ _ (lk_mem hl)
      have hv' : RD γ S w (.base id) v := hv
      cases hv' with
      | base hbg =>
        cases hob with
        | nil hg =>
          obtain rfl := Option.some.inj (hbg.symm.trans hg)
          rename_i A
          refine ⟨[], by simp [Builtin.lenOf], fun w' _ => ?_, by simp, trivial, by simp, by simp⟩
          cases A <;> simp [Builtin.firstCells, loadCells, loadCellsFrom]
        | row hg hcap h0 hbig hh hrest hsz hr hS =>
          obtain rfl := Option.some.inj (hbg.symm.trans hg)
          rename_i b cap vs rest
          have hnl : vs.length = rs'.length * sz' := by rw [← hr.length, flatten_len sz' _ hsz]
          refine ⟨vs, by simp [Builtin.lenOf], fun w' hw => ?_, hnl, hr, hsz, ?_⟩
          · refine run_firstCells_some (P := P) w' sz' _ ⟨b, 0, none⟩ _ cap vs hnl (fun k u hk => ?_)
            rw [add_none, hcell w' hw, Nat.zero_add, cell_of_block hh, List.getElem?_append_left (List.getElem?_eq_some_iff.1 hk).1]
            exact hk
          · refine hR.solids ?_ hr
            rw [List.all_eq_true] at hso ⊢
            intro d hd
            obtain ⟨r, h1, h2⟩ := List.mem_flatten.1 hd
            have := hso r h1
            rw [List.all_eq_true] at this
            exact this d h2
    · cases h
  · -- a text
    rename_i b
    simp only [Option.some.injEq, Prod.mk.injEq] at h; obtain ⟨rfl, rfl⟩ := h
    obtain rfl := hp
    have hv' := litS_run rfl hv
    subst hv'
    refine ⟨b.data.toList.map fun c => .int .u8 c.toNat, by simp [Builtin.lenOf], fun w' _ => ?_, by simp, ?_, ?_, ?_⟩
    · simp only [Builtin.firstCells, List.length_map, Array.length_toList]
      simp only [Sem.run_pure]
      congr 1
      apply Array.ext'
      have : b.extract 0 b.data.size = b := by
        apply ByteArray.ext
        simp [ByteArray.extract, ByteArray.copySlice]
      rw [this]; simp
    · have : ∀ l : List UInt8, RDs γ S w (l.map fun c => [D.data (.lit (.int .u8 c.toNat))]).flatten (l.map fun c => Value.int .u8 c.toNat) := by
        intro l
        induction l with
        | nil => trivial
        | cons c l ih => exact ⟨.data (.lit _), ih⟩
      exact this _
    · intro r hr; obtain ⟨c, _, rfl⟩ := List.mem_map.1 hr; rfl
    · intro u hu; obtain ⟨c, _, rfl⟩ := List.mem_map.1 hu; rfl
  · -- nil
    simp only [Option.some.injEq, Prod.mk.injEq] at h; obtain ⟨rfl, rfl⟩ := h
    have hv' := litS_run rfl hv
    subst hv'
    refine ⟨[], by simp [Builtin.lenOf], fun w' _ => ?_, by simp, trivial, by simp, by simp⟩
    simp [Builtin.firstCells]
  · cases h

def runs (P : Program) (a : Act) (w : World) (o : Oper) (r : Option Value) (w' : World) : Prop :=
  match r with
  | some v => (execOp a.eval o).run P w = .ok (.value v) w'
  | none => (execOp a.eval o).run P w = .ok .skip w'
include hT hR in
theorem effOp_run {o : Oper} {p : Prop} {s' : St} {rv : Option SV} (h : effOp T s o = some (p, s', rv)) (hp : p) :
    ∃ r w' γ', runs P a w o r w' ∧ Rep e γ' S s' a w' ∧ (match rv, r with | some sv, some v => RV γ' S w' sv v | none, none => True | _, _ => False) := by
  unfold effOp at h
  split at h
  · -- store
    rename_i t x y ho
    split at h
    · rename_i i d v hi hx hy
      split at h
      · rename_i xs hxs
        obtain ⟨vs, hv, hvr, hcv⟩ := hR.cellsOf hxs (hR.op hy)
        have hlv := hvr.length
        split at h
        · rename_i id off
          split at h
          · rename_i bt cs hl
            simp only [Option.some.injEq, Prod.mk.injEq] at h; obtain ⟨rfl, rfl, rfl⟩ := h
            obtain ⟨h1, h2⟩ := hp
            have hd : RD γ S w (.ref id off) (a.eval x) := hR.op hx
            generalize hux : a.eval x = u at hd
            cases hd with
            | ref hb =>
              rename_i bb
              have hm := lk_mem hl
              have hob := hR.heap.obj _ _ hm
              cases hob with
              | box hg hh hr hS =>
                rename_i b' cur
                have hb2 : blk γ id = some b' := by simp [blk, hg, vblk]
                obtain rfl := Option.some.inj (hb.symm.trans hb2)
                have hlc := hr.length
                have hrun := storeVar_run (P := P) hT w (off := off) hi hh hv (by omega) hcv (by omega)
                have hrep : Rep e γ S { s with h := setO s.h id (.box bt (splice cs off xs)) } a (w.setRow bb (cur.take off ++ vs ++ cur.drop (off + vs.length)).toArray) :=
                  hR.setRow hm hb hh rfl (fun w' h3 hs hnS => by
                    refine .box hg h3 ?_ hnS
                    have hr' := hr.move (γ' := γ) hs (fun _ h => h) (fun _ _ _ _ => rfl)
                    have hv' := hvr.move (γ' := γ) hs (fun _ h => h) (fun _ _ _ _ => rfl)
                    rw [splice_eq, hlv]
                    exact RDs.append (RDs.append (hr'.take _) hv') (hr'.drop _))
                refine ⟨none, _, γ, ?_, hrep, trivial⟩
                · simp only [runs, execOp, ho, hux, Instr.storeAt, Instr.sureAddr, Sem.run_bind, Sem.run_pure, Result.andThen_ok, hrun]
          · cases h
        · rename_i id sz k j
          split at h
          · rename_i et sz' rs hl
            simp only [Option.some.injEq, Prod.mk.injEq] at h; obtain ⟨rfl, rfl, rfl⟩ := h
            obtain ⟨rfl, h1, h2, h3⟩ := hp
            have hd : RD γ S w (.eptr id sz k j) (a.eval x) := hR.op hx
            generalize hux : a.eval x = u at hd
            cases hd with
            | eptr hb =>
              rename_i bb
              have hm := lk_mem hl
              have hob := hR.heap.obj _ _ hm
              cases hob with
              | nil => simp at h1
              | row hg hcap h0 hbig hh hrest hsz hr hS =>
                rename_i b' cap cur rest
                have hb2 : blk γ id = some b' := by simp only [blk, hg, vblk, Option.bind_some]; rw [if_neg (by omega)]
                obtain rfl := Option.some.inj (hb.symm.trans hb2)
                have hlc := hr.length
                have hfl := flatten_len sz rs hsz
                have hks : (k + 1) * sz ≤ rs.length * sz := Nat.mul_le_mul_right _ h1
                rw [Nat.succ_mul] at hks
                have hrun := storeVar_run (P := P) hT w (off := k * sz + j) hi hh hv (by omega) hcv (by rw [List.length_append]; omega)
                have hrow : (rs.drop k).headD [] = rs[k] := by rw [List.drop_eq_getElem_cons h1]; rfl
                have hrl : rs[k].length = sz := hsz _ (List.getElem_mem h1)
                have e1 : List.take (k * sz + j) (cur ++ rest) ++ vs ++ List.drop (k * sz + j + vs.length) (cur ++ rest) = (List.take (k * sz + j) cur ++ vs ++ List.drop (k * sz + j + vs.length) cur) ++ rest := by
                  rw [List.take_append_of_le_length (by omega), List.drop_append_of_le_length (by omega)]
                  simp [List.append_assoc]
                rw [e1] at hrun
                refine ⟨none, w.setRow bb ((List.take (k * sz + j) cur ++ vs ++ List.drop (k * sz + j + vs.length) cur) ++ rest).toArray, γ, ?_, hR.setRow hm hb hh (o' := .row et sz (rs.set k (splice ((rs.drop k).headD []) j xs))) rfl (fun w' h3' hs hnS => ?_), trivial⟩
                · simp only [runs, execOp, ho, hux, Instr.storeAt, Instr.sureAddr, Sem.run_bind, Sem.run_pure, Result.andThen_ok, hrun]
                · have hspl : (splice rs[k] j xs).length = sz := by rw [splice_eq]; simp; omega
                  rw [hrow]
                  refine .row (vs := List.take (k * sz + j) cur ++ vs ++ List.drop (k * sz + j + vs.length) cur) (rest := rest) (by rw [List.length_set]; exact hg) (by rw [List.length_set]; exact hcap) h0 (by rw [List.length_set]; exact hbig) h3' (by rw [List.length_set]; exact hrest) ?_ ?_ hnS
                  · intro r hr'
                    rcases List.mem_or_eq_of_mem_set hr' with h | h
                    · exact hsz _ h
                    · rw [h]; exact hspl
                  · have hr' := hr.move (γ' := γ) hs (fun _ h => h) (fun _ _ _ _ => rfl)
                    have hv' := hvr.move (γ' := γ) hs (fun _ h => h) (fun _ _ _ _ => rfl)
                    have e2 : (rs.set k (splice rs[k] j xs)).flatten = rs.flatten.take (k * sz + j) ++ xs ++ rs.flatten.drop (k * sz + j + vs.length) := by
                      rw [flatten_set sz rs k _ hsz h1 hspl, splice_eq]
                      have h4 : rs.flatten = (rs.take k).flatten ++ (rs[k] ++ (rs.drop (k + 1)).flatten) := by
                        have h4 := congrArg List.flatten (List.take_append_drop k rs).symm
                        rw [List.drop_eq_getElem_cons h1, List.flatten_append, List.flatten_cons] at h4
                        exact h4
                      have h5 : (rs.take k).flatten.length = k * sz := by
                        rw [flatten_len sz _ (fun r hr => hsz r (List.mem_of_mem_take hr))]
                        simp [Nat.min_eq_left (Nat.le_of_lt h1)]
                      have h6 : rs.flatten.take (k * sz + j) = rs.flatten.take (k * sz) ++ rs[k].take j := by
                        rw [h4, ← h5, List.take_length_add_append, List.take_left, List.take_append_of_le_length (by omega)]
                      have h7 : rs.flatten.drop (k * sz + j + vs.length) = rs[k].drop (j + xs.length) ++ rs.flatten.drop (k * sz + sz) := by
                        rw [h4, ← h5, Nat.add_assoc, List.drop_length_add_append, List.drop_length_add_append, List.drop_append_of_le_length (by omega), hlv]
                        congr 1
                        rw [← hrl, List.drop_left]
                      rw [h6, h7]; simp [List.append_assoc]
                    rw [e2]
                    exact RDs.append (RDs.append (hr'.take _) hv') (hr'.drop _)
          · cases h
        · cases h
      · cases h
    · cases h
  · -- an entry of a map
    rename_i t m x y ho
    split at h
    · rename_i i id kk z hi hm hx
      have hx' := litS_run rfl (hR.op hx)
      have hdm : RD γ S w (.base id) (a.eval m) := hR.op hm
      generalize hum : a.eval m = u at hdm
      cases hdm with
      | base hbg =>
      split at h
      · rename_i kt vt ob v hk hl hy
        have hmem := lk_mem hl
        have hob := hR.heap.obj _ _ hmem
        have hfin : ∀ w', (Instr.mapUpdate t u (.int .i64 z) (a.eval y)).run P w = .ok () w' → runs P a w o none w' := by
          intro w' h9
          simp only [runs, execOp, ho, hum, hx', Sem.run_bind, h9, Result.andThen_ok, Sem.run_pure]
        split at h
        · rename_i ik hik
          split at h
          · rename_i k es k' n hkk
            cases hke : kindEq k k' with
            | false => rw [hke] at h; cases h
            | true =>
              rw [hke] at h
              obtain rfl := kindEq_eq hke
              simp only [cond_true, Option.some.injEq, Prod.mk.injEq] at h; obtain ⟨rfl, rfl, rfl⟩ := h
              cases hob with
              | mi hg hh hr hS =>
                obtain rfl := Option.some.inj (hbg.symm.trans hg)
                obtain ⟨en', cl', h1, h2⟩ := mapUpdate_run hT hi hk hik hkk hh hr z (c := .one (.data (.lit (.int k n)))) (hR.op hy)
                rw [← cvI_upd] at h2
                exact ⟨none, _, γ, hfin _ h1, hR.setM hmem hg hh en' cl' rfl h2 (fun w' h3 h4 h5 => .mi hg h3 h4 h5), trivial⟩
          · rename_i es b hkk
            simp only [Option.some.injEq, Prod.mk.injEq] at h; obtain ⟨rfl, rfl, rfl⟩ := h
            cases hob with
            | mb hg hh hr hS =>
              obtain rfl := Option.some.inj (hbg.symm.trans hg)
              obtain ⟨en', cl', h1, h2⟩ := mapUpdate_run hT hi hk hik hkk hh hr z (c := .one (.data (.lit (.bool b)))) (hR.op hy)
              rw [← cvB_upd] at h2
              exact ⟨none, _, γ, hfin _ h1, hR.setM hmem hg hh en' cl' rfl h2 (fun w' h3 h4 h5 => .mb hg h3 h4 h5), trivial⟩
          · rename_i es cv hkk
            simp only [Option.some.injEq, Prod.mk.injEq] at h; obtain ⟨rfl, rfl, rfl⟩ := h
            cases hob with
            | mp hg hh hr hS =>
              obtain rfl := Option.some.inj (hbg.symm.trans hg)
              obtain ⟨en', cl', h1, h2⟩ := mapUpdate_run hT hi hk hik hkk hh hr z (c := cv) (hR.op hy)
              exact ⟨none, _, γ, hfin _ h1, hR.setM hmem hg hh en' cl' rfl h2 (fun w' h3 h4 h5 => .mp hg h3 h4 h5), trivial⟩
          · cases h
        · cases h
      · cases h
    · cases h
  · -- append
    rename_i cc ho
    obtain ⟨callee, args, argTypes⟩ := cc
    simp only at h
    split at h
    · rename_i x y t t2 hc1 hc2
      obtain rfl : args = #[x, y] := by cases args; simp at hc1; rw [hc1]
      obtain rfl : argTypes = #[t, t2] := by cases argTypes; simp at hc2; rw [hc2]
      split at h
      · rename_i i i2 id yv hi hi2 hx hy
        split at h
        · rename_i el et sz rs hk hl
          split at h
          · rename_i j p' news hj hsrc hk2
            split at h
            · rename_i z hz
              simp only [Option.some.injEq, Prod.mk.injEq] at h; obtain ⟨rfl, rfl, rfl⟩ := h
              obtain ⟨hp', rfl, rfl, hzs, hb1, hb2⟩ := hp
              obtain ⟨nv, h1, h2, h3, h4, h5, h6⟩ := srcRows_run (P := P) hR hsrc hp' (hR.op hy)
              have hx2 : P.underlying t2 = some .string ∨ ∃ e', P.underlying t2 = some (.slice e') := by
                cases hkk : i2.k with
                | slice e' => exact .inr ⟨e', Tab.slice hT hi2 hkk⟩
                | str => exact .inl (Tab.str hT hi2 hkk)
                | _ => rw [hkk] at hk2; cases hk2
              have hmem := lk_mem hl
              have hob := hR.heap.obj _ _ hmem
              have hdx : RD γ S w (.base id) (a.eval x) := hR.op hx
              generalize hux : a.eval x = u at hdx
              have hfin : ∀ v' w', (Builtin.append_ #[t, t2] o.type #[u, a.eval y]).run P w = .ok v' w' → runs P a w o (some v') w' := by
                intro v' w' h9
                simp only [runs, execOp, ho, resolve, Sem.run_bind, Sem.run_pure, Result.andThen_ok, invoke, builtin, List.map_toArray, List.map_cons, List.map_nil, hux, h9]
              have hkillr : ∀ {w' : World} {val : Value} {vs : List Value}, Same S w w' → RDs γ S w (rs ++ news).flatten vs → RDs (upd γ id val) S w' ((rs ++ news).map (fun r => r.map (D.kill id))).flatten vs := by
                intro w' val vs hs hr
                rw [kill_flatten]
                refine (hr.kill id).move hs (fun _ h => h) (fun j hj _ _ => ?_)
                unfold upd; rw [if_neg]
                rintro rfl
                simp only [List.any_map, List.any_eq_true] at hj
                obtain ⟨d, _, hd⟩ := hj
                simp [D.kill_has] at hd
              have hsz' : ∀ r, r ∈ (rs ++ news).map (fun r => r.map (D.kill id)) → (∀ r, r ∈ rs → r.length = j.sz) → r.length = j.sz := by
                intro r hr hrs
                obtain ⟨r0, hr0, rfl⟩ := List.mem_map.1 hr
                rw [List.length_map]
                rcases List.mem_append.1 hr0 with h | h
                · exact hrs _ h
                · exact h5 _ h
              have hlen2 : ((rs ++ news).map (fun r => r.map (D.kill id))).length = rs.length + news.length := by simp
              cases hdx with
              | base hbg =>
                cases hob with
                | nil hg =>
                  obtain rfl := Option.some.inj (hbg.symm.trans hg)
                  rename_i A
                  obtain ⟨v', w', hr1, hos, ht, hou, hsz1, hcase⟩ := append_run hT w (ty := o.type) hi hk hj hz hzs hx2 h1 h2 h3 h6 (A := A) (n := 0) (cap := 0) (olds := []) (rest := []) (Nat.le_refl _) (.inl ⟨rfl, rfl, rfl⟩) (by simpa using hb1) (by simpa using hb2)
                  have hbn : blk γ id = none := by simp only [blk, hg, Option.bind_some]; cases A <;> simp [vblk]
                  refine ⟨some v', w', upd γ id v', hfin _ _ hr1, ?_, .base (upd_self _ _ _)⟩
                  rcases hcase with ⟨rfl, h7, _, rfl⟩ | ⟨b, c, rest', rfl, hc3, hc4, hh', hrest', hwh⟩
                  · obtain rfl : news = [] := List.eq_nil_of_length_eq_zero (by omega)
                    exact hR.grown hmem rfl rfl ⟨rfl, Nat.le_refl _⟩ rfl (Nat.le_refl _) (fun _ _ _ => rfl) (fun b hb => by simp only [vblk] at hb; cases A <;> simp at hb) (.nil (upd_self _ _ _))
                  · have hwh' : b = w.heap.size ∧ ∀ k, k < w.heap.size → w'.heap[k]? = w.heap[k]? := by
                      rcases hwh with ⟨_, h8, _⟩ | h8
                      · omega
                      · exact h8
                    obtain ⟨rfl, hold⟩ := hwh'
                    have hsame : Same S w w' := fun k hk => hold k (hR.sw k hk)
                    refine hR.grown hmem rfl hos ht hou hsz1 (fun k hk _ => hold k hk) (fun b hb => ?_) ?_
                    · simp only [vblk] at hb; rw [if_neg (by omega)] at hb; simp at hb; omega
                    · refine .row (b := w.heap.size) (cap := c) (vs := nv) (rest := rest') ((upd_self _ _ _).trans (by simp)) (by rw [hlen2]; simpa using hc3) hc4 (by rw [hlen2]; exact hb2) (by simpa using hh') (by rw [hlen2]; simpa using hrest') (fun r hr => hsz' r hr (by simp)) (hkillr hsame (by simpa using h4)) (fun hS => by have := hR.sw _ hS; omega)
                | row hg hcap h0 hbig hh hrest hsz hr hS =>
                  obtain rfl := Option.some.inj (hbg.symm.trans hg)
                  rename_i b0 cap vs rest
                  have hvl : vs.length = rs.length * j.sz := by rw [← hr.length, flatten_len j.sz _ hsz]
                  obtain ⟨v', w', hr1, hos, ht, hou, hsz1, hcase⟩ := append_run hT w (ty := o.type) hi hk hj hz hzs hx2 h1 h2 h3 h6 (A := some ⟨b0, 0, none⟩) (n := rs.length) (cap := cap) (olds := vs) (rest := rest) hcap (.inr ⟨b0, rfl, hh, hvl, hrest, h0⟩) hb1 hb2
                  have hbn : blk γ id = some b0 := by simp only [blk, hg, vblk, Option.bind_some]; rw [if_neg (by omega)]
                  refine ⟨some v', w', upd γ id v', hfin _ _ hr1, ?_, .base (upd_self _ _ _)⟩
                  rcases hcase with ⟨_, _, h7, _⟩ | ⟨b, c, rest', rfl, hc3, hc4, hh', hrest', hwh⟩
                  · omega
                  · have hold : ∀ k, k < w.heap.size → k ≠ b0 → w'.heap[k]? = w.heap[k]? := by
                      intro k hk hkb
                      rcases hwh with ⟨h8, _, _, h9⟩ | ⟨_, h9⟩
                      · simp at h8; subst h8; exact h9 k hkb
                      · exact h9 k hk
                    have hsame : Same S w w' := fun k hk => hold k (hR.sw k hk) (fun he => hS (he ▸ hk))
                    refine hR.grown hmem rfl hos ht hou hsz1 (fun k hk hb => hold k hk (fun he => hb (by rw [hbn, he]))) (fun b' hb => ?_) ?_
                    · simp only [vblk] at hb; rw [if_neg (by omega)] at hb; simp at hb; subst hb
                      rcases hwh with ⟨h8, _⟩ | ⟨h8, _⟩
                      · simp at h8; left; rw [hbn, h8]
                      · right; omega
                    · refine .row (b := b) (cap := c) (vs := vs ++ nv) (rest := rest') ((upd_self _ _ _).trans (by simp)) (by rw [hlen2]; exact hc3) hc4 (by rw [hlen2]; exact hb2) (by simpa using hh') (by rw [hlen2]; exact hrest') (fun r hr' => hsz' r hr' hsz) (hkillr hsame (by rw [List.flatten_append]; exact RDs.append hr h4)) (fun hS' => ?_)
                      rcases hwh with ⟨h8, _⟩ | ⟨h8, _⟩
                      · simp at h8; subst h8; exact hS hS'
                      · have := hR.sw _ hS'; omega
            · cases h
          · cases h
        · cases h
      · cases h
    · cases h
  · cases h
end
end Go.Fw
/- The framework, part 22: more operations that hand back a value: an interface's type is asked for; the greater, the lesser. -/
set_option linter.unusedVariables false
set_option linter.unusedSimpArgs false
namespace Go.Fw
open Go

def zeroCv (i : TI) : Option Cv := match i.zero with
  | some z => match cst z with
    | .c x => some x
    | _ => none
  | none => none
def plainK : TK → Bool
  | .iface => false
  | _ => true
def vopX (T : Tab) (s : St) (o : Oper) : Option (Prop × SV) :=
  match o.op with
  | .typeAssert x xt t true => match T t, s.op x with
    | some i, some (.c (.one d)) => bif plainK i.k then match zeroCv i with
      | some zc => match d with
        | .ifc u false [c] => bif Nat.beq u t then some (True, .tup [.one (.data c), .one (.data (.lit (.bool true)))]) else some (True, .tup [zc, .one (.data (.lit (.bool false)))])
        | .data (.lit .nilIface) => some (True, .tup [zc, .one (.data (.lit (.bool false)))])
        | _ => none
      | none => none else none
    | _, _ => none
  | .call c => match c.callee, c.args.toList, c.argTypes.toList with
    | .builtin .max, [x, y], _ => match s.op x, s.op y with
      | some (.c (.one (.data (.lit (.int .i64 a))))), some (.c (.one (.data (.lit (.int .i64 b))))) => some (True, litS (.int .i64 (if b > a then b else a)))
      | _, _ => none
    | .builtin .min, [x, y], _ => match s.op x, s.op y with
      | some (.c (.one (.data (.lit (.int .i64 a))))), some (.c (.one (.data (.lit (.int .i64 b))))) => some (True, litS (.int .i64 (if b < a then b else a)))
      | _, _ => none
    | .builtin .cap, [x], [t] => match T t, s.op x with
      | some i, some (.c (.one (.data (.lit (.slice _ _ c))))) => match i.k with
        | .slice _ => some (True, litS (.int .i64 c))
        | _ => none
      | _, _ => none
    | .builtin .len, [x], [t] => match T t, s.op x with
      | some i, some (.c (.one (.sub _ _ _ n))) => match i.k with
        | .slice _ => some (True, litS (.int .i64 n))
        | _ => none
      | _, _ => none
    | _, _, _ => none
  | .indexAddr t x y => match T t, s.op x, s.op y with
    | some i, some (.c (.one (.sub id sz lo n))), some (.c (.one (.data (.lit (.int _ z))))) => match i.k with
      | .slice e => match T e with
        | some j => some (0 ≤ z ∧ z < n ∧ j.sz = sz, one (.eptr id sz (lo + z.toNat) 0))
        | _ => none
      | _ => none
    | _, _, _ => none
  | .slice t x lo hi none => match T t, s.op x with
    | some i, some (.c (.one (.data (.lit (.slice none 0 0))))) => match i.k, bnd s lo 0, bnd s hi 0 with
      | .slice e, some l, some h => match T e with
        | some _ => some (l = 0 ∧ h = 0, litS (.slice none 0 0))
        | none => none
      | _, _, _ => none
    | some i, some (.c (.one (.base id))) => match lk s.h id with
      | some (.row _ sz rs) => match i.k, bnd s lo 0, hi with
        | .slice e, some l, none => match T e with
          | some j => some (0 ≤ l ∧ l < rs.length ∧ j.sz = sz, one (.sub id sz l.toNat (rs.length - l.toNat)))
          | none => none
        | _, _, _ => none
      | _ => none
    | _, _ => none
  | _ => none

section
variable {P : Program} {T : Tab} (hT : T.OK P) {e : Env} {γ : Nat → Option Value} {S : Nat → Prop} {s : St} {a : Act} {w : World} (hR : Rep e γ S s a w)
theorem Tab.plain (hT : T.OK P) {t : TypeId} {i : TI} (h : T t = some i) (hk : plainK i.k = true) : ∃ d, P.underlying t = some d ∧ ∀ ms, d ≠ .interface ms := by
  obtain ⟨d, h2, h6⟩ := Tab.under hT h
  refine ⟨d, h2, ?_⟩
  rintro ms rfl
  rw [← h6] at hk; cases hk
theorem assert_yes {t xt : TypeId} {i : TI} (hT : T.OK P) (hi : T t = some i) (hk : plainK i.k = true) (v : Value) : (Instr.typeAssert (.iface t v) xt t true).run P w = .ok (.tuple #[v, .bool true]) w := by
  obtain ⟨d, hu, hne⟩ := Tab.plain hT hi hk
  simp only [Instr.typeAssert, Sem.run_bind, run_underlying hu, Result.andThen_ok]
  cases d <;> first | exact absurd rfl (hne _) | simp
theorem assert_no {t u xt : TypeId} {i : TI} (hT : T.OK P) (hi : T t = some i) (hk : plainK i.k = true) {z : Value} (hz : i.zero = some z) (v : Value) (hne : u ≠ t) : (Instr.typeAssert (.iface u v) xt t true).run P w = .ok (.tuple #[z, .bool false]) w := by
  obtain ⟨d, hu, hne'⟩ := Tab.plain hT hi hk
  have := Tab.zero hT w hi hz
  simp only [Instr.typeAssert, Sem.run_bind, run_underlying hu, Result.andThen_ok]
  cases d <;> first | exact absurd rfl (hne' _) | simp [hne, Sem.run_bind, this]
theorem assert_nil {t xt : TypeId} {i : TI} (hT : T.OK P) (hi : T t = some i) (hk : plainK i.k = true) {z : Value} (hz : i.zero = some z) : (Instr.typeAssert .nilIface xt t true).run P w = .ok (.tuple #[z, .bool false]) w := by
  obtain ⟨d, hu, hne'⟩ := Tab.plain hT hi hk
  have := Tab.zero hT w hi hz
  simp only [Instr.typeAssert, Sem.run_bind, run_underlying hu, Result.andThen_ok]
  cases d <;> first | exact absurd rfl (hne' _) | simp [Sem.run_bind, this]
theorem zeroCv_spec {i : TI} {zc : Cv} (h : zeroCv i = some zc) : ∃ z, i.zero = some z ∧ RC γ S w zc z := by
  unfold zeroCv at h
  split at h
  · rename_i z hz
    split at h
    · rename_i x hx
      simp only [Option.some.injEq] at h; subst h
      have := RV.cst (γ := γ) (S := S) (w := w) z
      rw [hx] at this
      exact ⟨z, hz, this⟩
    · cases h
  · cases h
include hT hR in
theorem vopX_run {o : Oper} {p : Prop} {v : SV} (h : vopX T s o = some (p, v)) (hp : p) : ∃ u, (execOp a.eval o).run P w = .ok (.value u) w ∧ RV γ S w v u := by
  unfold vopX at h
  split at h
  · rename_i x xt t ho
    split at h
    · rename_i i d hi hx
      cases hk : plainK i.k with
      | false => rw [hk] at h; cases h
      | true =>
        rw [hk] at h
        simp only [cond_true] at h
        split at h
        · rename_i zc hzc
          obtain ⟨z, hz, hzr⟩ := zeroCv_spec (γ := γ) (S := S) (w := w) hzc
          have hv : RD γ S w d (a.eval x) := hR.op hx
          generalize hu : a.eval x = u at hv
          split at h
          · rename_i ut c
            cases hv with
            | ifc1 hc =>
              rename_i v'
              cases hb : Nat.beq ut t with
              | true =>
                rw [hb] at h
                simp only [cond_true, Option.some.injEq, Prod.mk.injEq] at h; obtain ⟨rfl, rfl⟩ := h
                obtain rfl := Nat.eq_of_beq_eq_true hb
                refine ⟨.tuple #[v', .bool true], ?_, [_, _], rfl, .data hc, .data (.lit _), trivial⟩
                simp only [execOp, ho, hu, Sem.run_bind, assert_yes hT hi hk, Result.andThen_ok, Sem.run_pure]
              | false =>
                rw [hb] at h
                simp only [cond_false, Option.some.injEq, Prod.mk.injEq] at h; obtain ⟨rfl, rfl⟩ := h
                have hne : ut ≠ t := fun he => by rw [he] at hb; simp at hb
                refine ⟨.tuple #[z, .bool false], ?_, [_, _], rfl, hzr, .data (.lit _), trivial⟩
                simp only [execOp, ho, hu, Sem.run_bind, assert_no hT hi hk hz _ hne, Result.andThen_ok, Sem.run_pure]
          · simp only [Option.some.injEq, Prod.mk.injEq] at h; obtain ⟨rfl, rfl⟩ := h
            cases hv with
            | data hd =>
              cases hd
              refine ⟨.tuple #[z, .bool false], ?_, [_, _], rfl, hzr, .data (.lit _), trivial⟩
              simp only [execOp, ho, hu, Sem.run_bind, assert_nil hT hi hk hz, Result.andThen_ok, Sem.run_pure]
          · cases h
        · cases h
    · cases h
  · rename_i c ho
    obtain ⟨callee, args, argTypes⟩ := c
    split at h
    · rename_i x y h1 h2
      simp only at h1 h2
      subst h1
      obtain rfl : args = #[x, y] := by cases args; simp at h2; rw [h2]
      split at h
      · rename_i n1 n2 hx hy
        simp only [Option.some.injEq, Prod.mk.injEq] at h; obtain ⟨rfl, rfl⟩ := h
        refine ⟨.int .i64 (if n2 > n1 then n2 else n1), ?_, .data (.lit _)⟩
        simp [execOp, ho, resolve, invoke, builtin, litS_run rfl (hR.op hx), litS_run rfl (hR.op hy), Builtin.max_, Builtin.max2]
      · cases h
    · rename_i x y h1 h2
      simp only at h1 h2
      subst h1
      obtain rfl : args = #[x, y] := by cases args; simp at h2; rw [h2]
      split at h
      · rename_i n1 n2 hx hy
        simp only [Option.some.injEq, Prod.mk.injEq] at h; obtain ⟨rfl, rfl⟩ := h
        refine ⟨.int .i64 (if n2 < n1 then n2 else n1), ?_, .data (.lit _)⟩
        simp [execOp, ho, resolve, invoke, builtin, litS_run rfl (hR.op hx), litS_run rfl (hR.op hy), Builtin.min_, Builtin.min2]
      · cases h
    · rename_i x t h1 h2 h3
      simp only at h1 h2 h3
      subst h1
      obtain rfl : args = #[x] := by cases args; simp at h2; rw [h2]
      obtain rfl : argTypes = #[t] := by cases argTypes; simp at h3; rw [h3]
      split at h
      · rename_i i A n c hti hx
        split at h
        · rename_i e hk
          simp only [Option.some.injEq, Prod.mk.injEq] at h; obtain ⟨rfl, rfl⟩ := h
          refine ⟨.int .i64 c, ?_, .data (.lit _)⟩
          simp [execOp, ho, resolve, invoke, builtin, litS_run rfl (hR.op hx), Builtin.cap_, run_underlying (Tab.slice hT hti hk), goInt]
        · cases h
      · cases h
    · rename_i x t h1 h2 h3
      simp only at h1 h2 h3
      subst h1
      obtain rfl : args = #[x] := by cases args; simp at h2; rw [h2]
      obtain rfl : argTypes = #[t] := by cases argTypes; simp at h3; rw [h3]
      split at h
      · rename_i i id sz lo n hti hx
        split at h
        · rename_i e hk
          simp only [Option.some.injEq, Prod.mk.injEq] at h; obtain ⟨rfl, rfl⟩ := h
          have hv : RD γ S w (.sub id sz lo n) (a.eval x) := hR.op hx
          generalize hux : a.eval x = u at hv
          cases hv with
          | sub hb hn =>
            refine ⟨.int .i64 n, ?_, .data (.lit _)⟩
            simp [execOp, ho, resolve, invoke, builtin, hux, Builtin.len_, run_underlying (Tab.slice hT hti hk), goInt]
        · cases h
      · cases h
    · cases h
  · rename_i t x y ho
    split at h
    · rename_i i id sz lo n kk z hti hx hy
      split at h
      · rename_i e hk
        split at h
        · rename_i j hj
          simp only [Option.some.injEq, Prod.mk.injEq] at h; obtain ⟨rfl, rfl⟩ := h
          obtain ⟨h0, h1, h2⟩ := hp
          have hu := Tab.slice hT hti hk
          have hy' := litS_run rfl (hR.op hy)
          have hv : RD γ S w (.sub id sz lo n) (a.eval x) := hR.op hx
          generalize hux : a.eval x = u at hv
          cases hv with
          | sub hb hn =>
            rename_i b c
            refine ⟨.pointer (some ⟨b, (lo + z.toNat) * sz + 0, none⟩), ?_, .eptr hb⟩
            simp only [execOp, ho, hux, hy', Instr.indexAt, asIntOf, Sem.run_bind, Sem.run_pure, run_underlying hu, Result.andThen_ok]
            rw [if_pos ⟨h0, h1⟩]
            simp only [Sem.run_bind, Tab.sizeOf hT w hj, Result.andThen_ok, Sem.run_pure, h2, add_none, Nat.zero_add, Nat.add_zero, Nat.add_mul]
        · cases h
      · cases h
    · cases h
  · rename_i t x lo hi ho
    split at h
    · rename_i i hti hx
      split at h
      · rename_i e l hh hk hl hh'
        split at h
        · rename_i j hj
          simp only [Option.some.injEq, Prod.mk.injEq] at h; obtain ⟨rfl, rfl⟩ := h
          obtain ⟨rfl, rfl⟩ := hp
          have hu := Tab.slice hT hti hk
          have hux := litS_run rfl (hR.op hx)
          have hbd := bounds_run (P := P) (n := 0) (cap := 0) hR true hl hh' (Int.le_refl _) (Int.le_refl _) (Int.le_refl _) (Nat.le_refl _)
          refine ⟨.slice none 0 0, ?_, .data (.lit _)⟩
          simp [execOp, ho, hux, Instr.sliceAt, Instr.slice, Sem.run_bind, run_underlying hu, Result.andThen_ok, Option.map_none, hbd, Tab.sizeOf hT w hj, Sem.run_pure]
        · cases h
      · cases h
    · rename_i i id hti hx
      split at h
      · rename_i el sz rs hl
        split at h
        · rename_i e l hk hlo
          split at h
          · rename_i j hj
            simp only [Option.some.injEq, Prod.mk.injEq] at h; obtain ⟨rfl, rfl⟩ := h
            obtain ⟨h0, h1, h2⟩ := hp
            have hu := Tab.slice hT hti hk
            have hv : RD γ S w (.base id) (a.eval x) := hR.op hx
            generalize hux : a.eval x = u at hv
            cases hv with
            | base hbg =>
              have hob := hR.heap.obj _ _ (lk_mem hl)
              cases hob with
              | nil => simp at h1; omega
              | row hg hcap h0' hbig hh hrest hsz hr hS =>
                rename_i b cap vs rest
                obtain rfl := Option.some.inj (hbg.symm.trans hg)
                have hbd := bounds_run (P := P) (n := rs.length) (cap := cap) (hi := none) hR true hlo rfl h0 (by omega) (Int.le_refl _) hcap
                rw [Option.map_none] at hbd
                refine ⟨.slice (some ⟨b, l.toNat * sz, none⟩) (rs.length - l.toNat) (cap - l.toNat), ?_, .sub (by simp only [blk, hg, Option.bind_some, vblk]; rw [if_neg (by omega)]) (by omega)⟩
                simp only [execOp, ho, hux, Instr.sliceAt, Instr.slice, Sem.run_bind, run_underlying hu, Result.andThen_ok, Option.map_none, hbd, Tab.sizeOf hT w hj, Sem.run_pure]
                rw [if_neg (by omega), h2]
                simp [add_none]
          · cases h
        · cases h
      · cases h
    · cases h
  · cases h
end

/-- All of them. -/
def vopA (T : Tab) (q : EqT) (s : St) (o : Oper) : Option (Prop × SV) := match vop T q s o with
  | some r => some r
  | none => vopX T s o
theorem vopA_run {P : Program} {T : Tab} (hT : T.OK P) {q : EqT} (hq : q.OK P) {e : Env} {γ : Nat → Option Value} {S : Nat → Prop} {s : St} {a : Act} {w : World} (hR : Rep e γ S s a w) {o : Oper} {p : Prop} {v : SV}
    (h : vopA T q s o = some (p, v)) (hp : p) : ∃ u, (execOp a.eval o).run P w = .ok (.value u) w ∧ RV γ S w v u := by
  unfold vopA at h
  split at h
  · rename_i r hr
    simp only [Option.some.injEq] at h; subst h
    exact vop_run hT hq hR hr hp
  · exact vopX_run hT hR h hp
end Go.Fw
