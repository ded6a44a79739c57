/- The framework, part 24: what is no longer looked at is forgotten, its ids too. -/
import Derived.Test.YtlhfajmcnbcabaaFwD
set_option linter.unusedVariables false
set_option linter.unusedSimpArgs false
namespace Go.Fw
open Go

def D.lt (n : Nat) : D → Bool
  | .ref i _ => Nat.blt i n
  | .eptr i _ _ _ => Nat.blt i n
  | .sub i _ _ _ => Nat.blt i n
  | .base i => Nat.blt i n
  | .clo _ ids => ids.all (fun i => Nat.blt i n)
  | _ => true
def dsLt (n : Nat) : List D → Bool
  | [] => true
  | d :: r => d.lt n && dsLt n r
def Cv.lt (n : Nat) : Cv → Bool
  | .one d => d.lt n
  | .agg ds => dsLt n ds
def SV.lt (n : Nat) : SV → Bool
  | .c x => x.lt n
  | .tup l => l.all (Cv.lt n)
def O.lt (n : Nat) : O → Bool
  | .box _ cs => dsLt n cs
  | .row _ _ rs => rs.all (dsLt n)
  | .mp es => es.all (fun x => x.2.lt n)
  | _ => true
def slLt (n : Nat) : List (Nat × SV) → Bool
  | [] => true
  | (_, v) :: r => v.lt n && slLt n r
def hLt (n : Nat) : Heap → Bool
  | [] => true
  | (i, o) :: r => Nat.blt i n && o.lt n && hLt n r
def nodupH : Heap → Bool
  | [] => true
  | (i, _) :: r => (!(hids r).any (Nat.beq i)) && nodupH r
section
variable {n i : Nat}
theorem blt_lt {a b : Nat} (h : Nat.blt a b = true) : a < b := Nat.le_of_ble_eq_true h
theorem D.lt_has {d : D} (h : d.lt n = true) (hi : d.has i = true) : i < n := by
  cases d <;> simp only [D.has, D.lt, Bool.false_eq_true] at h hi
  case ref => rw [← Nat.eq_of_beq_eq_true hi]; exact blt_lt h
  case eptr => rw [← Nat.eq_of_beq_eq_true hi]; exact blt_lt h
  case sub => rw [← Nat.eq_of_beq_eq_true hi]; exact blt_lt h
  case base => rw [← Nat.eq_of_beq_eq_true hi]; exact blt_lt h
  case clo f ids =>
    simp only [List.any_eq_true] at hi
    obtain ⟨j, hj, he⟩ := hi
    obtain rfl := Nat.eq_of_beq_eq_true he
    exact blt_lt (List.all_eq_true.1 h j hj)
theorem dsLt_has : ∀ {ds : List D}, dsLt n ds = true → ds.any (D.has i) = true → i < n
  | [], _, h => by cases h
  | d :: r, h, hi => by
    simp only [dsLt, Bool.and_eq_true] at h
    simp only [List.any_cons, Bool.or_eq_true] at hi
    rcases hi with hi | hi
    · exact D.lt_has h.1 hi
    · exact dsLt_has h.2 hi
theorem Cv.lt_has {x : Cv} (h : x.lt n = true) (hi : x.has i = true) : i < n := by
  cases x with
  | one d => exact D.lt_has h hi
  | agg ds => exact dsLt_has h hi
theorem SV.lt_has {x : SV} (h : x.lt n = true) (hi : x.has i = true) : i < n := by
  cases x with
  | c x => exact Cv.lt_has h hi
  | tup l =>
    simp only [SV.has, List.any_eq_true] at hi
    obtain ⟨x, hx, hi⟩ := hi
    exact Cv.lt_has (List.all_eq_true.1 h x hx) hi
theorem O.lt_has {o : O} (h : o.lt n = true) (hi : o.has i = true) : i < n := by
  cases o with
  | box t cs => exact dsLt_has h hi
  | row e sz rs =>
    simp only [O.has, List.any_eq_true] at hi
    obtain ⟨r, hr, hi⟩ := hi
    exact dsLt_has (List.all_eq_true.1 h r hr) (by simp only [List.any_eq_true]; exact hi)
  | mp es =>
    simp only [O.has, List.any_eq_true] at hi
    obtain ⟨x, hx, hi⟩ := hi
    exact Cv.lt_has (List.all_eq_true.1 h x hx) hi
  | mi => cases hi
  | mb => cases hi
  | it => cases hi
theorem slLt_get : ∀ {l : List (Nat × SV)} {d : Nat} {v : SV}, slLt n l = true → lk l d = some v → v.lt n = true
  | [], _, _, _, h => by cases h
  | (k, x) :: r, d, v, h, hd => by
    simp only [slLt, Bool.and_eq_true] at h
    rw [lk_cons] at hd
    split at hd
    · simp only [Option.some.injEq] at hd; subst hd; exact h.1
    · exact slLt_get h.2 hd
theorem hLt_get : ∀ {h : Heap} {j : Nat} {o : O}, hLt n h = true → (j, o) ∈ h → j < n ∧ o.lt n = true
  | [], _, _, _, h => by cases h
  | (k, x) :: r, j, o, h, hm => by
    simp only [hLt, Bool.and_eq_true] at h
    rcases List.mem_cons.1 hm with he | hm
    · cases he; exact ⟨blt_lt h.1.1, h.1.2⟩
    · exact hLt_get h.2 hm
theorem nodupH_spec : ∀ {h : Heap}, nodupH h = true → (hids h).Nodup
  | [], _ => .nil
  | (i, o) :: r, h => by
    simp only [nodupH, Bool.and_eq_true, Bool.not_eq_true', List.any_eq_false] at h
    simp only [hids, List.map_cons, List.nodup_cons]
    exact ⟨fun hm => h.1 i hm (by simp), nodupH_spec h.2⟩
end
/-- A state that says less, of fewer objects. -/
theorem Le.drop {n0 : Nat} {s s' : St} (hs : SlLe s.sl s'.sl) (hh : HLe s.h s'.h) (hc : (nodupH s'.h && Nat.ble s'.nx s.nx && Nat.ble n0 s'.nx && slLt s'.nx s'.sl && hLt s'.nx s'.h) = true) : Le n0 s s' := by
  intro e γ S a w h0 hR
  simp only [Bool.and_eq_true] at hc
  obtain ⟨⟨⟨⟨hk, hn⟩, hn0⟩, hsl⟩, hhl⟩ := hc
  have hk := nodupH_spec hk
  have hn := Nat.le_of_ble_eq_true hn
  have hn0 := Nat.le_of_ble_eq_true hn0
  let γ2 : Nat → Option Value := fun id => if id < s'.nx then γ id else none
  have hg : ∀ id, id < s'.nx → γ2 id = γ id := fun id h => if_pos h
  have hblk : ∀ id, id < s'.nx → blk γ2 id = blk γ id := fun id h => by unfold blk; rw [hg id h]
  have hsame : Same S w w := fun _ _ => rfl
  refine ⟨γ2, S, { size := hR.size, defers := hR.defers, slots := ?_, heap := ⟨?_, ?_, hk⟩, fresh := fun id o hm => (hLt_get hhl hm).1, kept := hR.kept, sw := hR.sw, s0 := hR.s0, sin := hR.sin, own := ?_, gam := ?_, ids := fun id o hm => hR.ids id o (hh.mem hm), nx := by omega, h0 := hR.h0, rows := fun id o hm => hR.rows id o (hh.mem hm), new := fun id h => if_neg (by omega) }⟩
  · intro d v h
    obtain ⟨u, h1, h2⟩ := hs.get h
    exact (h2 γ S w _ (hR.slots d u h1)).move hsame (fun _ h => h) (fun id hi _ _ => hg id (SV.lt_has (slLt_get hsl h) hi))
  · intro id o hm
    obtain ⟨h1, h2⟩ := hLt_get hhl hm
    exact (hR.heap.obj id o (hh.mem hm)).move hsame (fun _ h => h) (fun i hi _ _ => hg i (O.lt_has h2 hi)) (hg id h1) (fun b _ => ⟨rfl, fun h => h⟩)
  · intro id o id' o' h1 h2 hne b hb hb'
    rw [hblk _ (hLt_get hhl h1).1] at hb; rw [hblk _ (hLt_get hhl h2).1] at hb'
    exact hR.heap.apart _ _ _ _ (hh.mem h1) (hh.mem h2) hne b hb hb'
  · intro id o b hm hb
    rw [hblk _ (hLt_get hhl hm).1] at hb
    exact hR.own _ _ _ (hh.mem hm) hb
  · intro id h1 h2
    rw [hg id (by omega)]; exact hR.gam id h1 h2
end Go.Fw
/- The framework, part 25: contracts of functions that leave all as it was. -/
set_option linter.unusedVariables false
set_option linter.unusedSimpArgs false
namespace Go.Fw
open Go
section
variable {C : Cx} {c : Code}
/-- Plain arguments, a plain result. -/
theorem PureT.run0 {f : FuncId} {fn : Func} {args : List SV} {v : SV} (hf : C.P.funcs[f]? = some fn) (hb : fn.body = some c) (hn : (fn.name == "runtime.NumGoroutine") = false)
    (N : Nat) (hN : fn.ntmps = N) (rs : List ResultVar) (hrs : fn.results.toList = rs) (hlen : Nat.ble args.length N = true) (hv : ∀ id, v.has id = false)
    (k : JC C N 0 c ⟨zipSlots 0 args, [], 0⟩ (bodyQ C rs 0 (fun r _ _ => r = .ret v))) : PureT C f args [] 0 v := by
  refine Triple.pure (Triple.run hf hb hn N hN rs hrs hlen k) ?_
  rintro r h' nx' rfl
  exact ⟨rfl, (fun _ _ h => by cases h), fun id _ => hv id⟩
/-- What was handed over stays. -/
theorem PureT.runh {f : FuncId} {fn : Func} {args : List SV} {h : Heap} {nx : Nat} {v : SV} (hf : C.P.funcs[f]? = some fn) (hb : fn.body = some c) (hn : (fn.name == "runtime.NumGoroutine") = false)
    (N : Nat) (hN : fn.ntmps = N) (rs : List ResultVar) (hrs : fn.results.toList = rs) (hlen : Nat.ble args.length N = true) (hv : ∀ id, v.has id = false)
    (k : JC C N nx c ⟨zipSlots 0 args, h, nx⟩ (bodyQ C rs nx (fun r h' _ => r = .ret v ∧ HLe h' h))) : PureT C f args h nx v := by
  refine Triple.pure (Triple.run hf hb hn N hN rs hrs hlen k) ?_
  rintro r h' nx' ⟨rfl, hh⟩
  exact ⟨rfl, (fun _ _ h => hh.mem h), fun id _ => hv id⟩
end
end Go.Fw
/- The framework, part 26: calls with objects of one's own, by a list of their ids; calls that make objects. -/
set_option linter.unusedVariables false
set_option linter.unusedSimpArgs false
namespace Go.Fw
open Go

def rhoL : List Nat → Nat → Nat → Nat
  | [], n, i => n + i
  | a :: _, _, 0 => a
  | _ :: r, n, i + 1 => rhoL r n i
def okL : List Nat → Nat → Bool
  | [], _ => true
  | a :: r, n => Nat.blt a n && (!r.any (Nat.beq a)) && okL r n
theorem rhoL_lt {n : Nat} : ∀ {L : List Nat} {i : Nat}, okL L n = true → i < L.length → rhoL L n i ∈ L ∧ rhoL L n i < n
  | [], i, _, h => by simp at h
  | a :: r, 0, h, _ => by
    simp only [okL, Bool.and_eq_true] at h
    exact ⟨List.mem_cons_self, blt_lt h.1.1⟩
  | a :: r, i + 1, h, hi => by
    simp only [okL, Bool.and_eq_true] at h
    obtain ⟨h1, h2⟩ := rhoL_lt (L := r) (i := i) h.2 (by simpa using hi)
    exact ⟨List.mem_cons_of_mem _ h1, h2⟩
theorem rhoL_ge {n : Nat} : ∀ {L : List Nat} {i : Nat}, L.length ≤ i → rhoL L n i = n + (i - L.length)
  | [], i, _ => by simp [rhoL]
  | a :: r, 0, h => by simp at h
  | a :: r, i + 1, h => by
    simp only [rhoL, List.length_cons]
    rw [rhoL_ge (L := r) (by simpa using h)]
    congr 1; omega
theorem rhoL_inj {n : Nat} : ∀ {L : List Nat} {i j : Nat}, okL L n = true → i < L.length → j < L.length → rhoL L n i = rhoL L n j → i = j
  | [], i, j, _, h, _, _ => by simp at h
  | a :: r, 0, 0, _, _, _, _ => rfl
  | a :: r, 0, j + 1, h, hi, hj, he => by
    simp only [okL, Bool.and_eq_true, Bool.not_eq_true', List.any_eq_false] at h
    have := (rhoL_lt (L := r) (i := j) h.2 (by simpa using hj)).1
    simp only [rhoL] at he
    exact absurd (by simp [he]) (h.1.2 _ this)
  | a :: r, i + 1, 0, h, hi, hj, he => by
    simp only [okL, Bool.and_eq_true, Bool.not_eq_true', List.any_eq_false] at h
    have := (rhoL_lt (L := r) (i := i) h.2 (by simpa using hi)).1
    simp only [rhoL] at he
    exact absurd (by simp [he]) (h.1.2 _ this)
  | a :: r, i + 1, j + 1, h, hi, hj, he => by
    simp only [okL, Bool.and_eq_true] at h
    rw [rhoL_inj (L := r) h.2 (by simpa using hi) (by simpa using hj) he]
theorem Moves.list {L : List Nat} {n : Nat} (h : okL L n = true) : Moves (rhoL L n) L.length n := ⟨fun i j hi hj => rhoL_inj h hi hj, fun i hi => (rhoL_lt h hi).2, fun i hi => rhoL_ge hi⟩

theorem capOf {h : Heap} : ∀ {ids : List Nat} {caps : List SV}, capSV ⟨[], h, 0⟩ ids = some caps → ∀ s : St, s.h = h → capSV s ids = some caps
  | [], caps, hc, s, hs => hc
  | i :: r, caps, hc, s, hs => by
    unfold capSV at hc ⊢
    split at hc
    · rename_i t cs l h1 h2
      rw [hs, h1, capOf h2 s hs]; exact hc
    · cases hc
section
variable {C : Cx} {N n0 : Nat} {ops : Array Oper} {l : List Oper} {s M : St} {Q : Exit → St → Prop} {o : Oper}
theorem JL.pl (L : List Nat) {f : Operand} {args : Array Operand} {tys : Array TypeId} {fid : FuncId} {ids : List Nat} {svs caps args0 : List SV} {h0 : Heap} {v v' : SV}
    (hg : o.guard = none) (ho : o.op = .call { callee := .value f, args := args, argTypes := tys }) (hd : dstOK N o.dst = true) (hf : s.op f = some (.c (.one (.clo fid ids)))) (ha : argSV s args.toList = some svs) (hcap : capSV s ids = some caps)
    (hL : okL L s.nx = true) (hfit : Fit (svs ++ caps) (renL (rhoL L s.nx) args0)) (hh : HLe s.h (renH (rhoL L s.nx) h0)) (hk : nodupH h0 = true) (hrow : rowIds h0 = []) (ht : PureT C fid args0 h0 L.length v) (hv : v.ren (rhoL L s.nx) = v')
    (k : JL C N n0 ops l (s.putO o.dst v') Q) : JL C N n0 ops (o :: l) s Q :=
  JL.pure (rhoL L s.nx) hg ho hd hf ha hcap (Moves.list hL) hfit hh (nodupH_spec hk) hrow ht hv k
theorem CallOK.pl (L : List Nat) {f : Operand} {args : Array Operand} {tys : Array TypeId} {fid : FuncId} {ids : List Nat} {svs caps args0 : List SV} {h0 : Heap} {v v' : SV}
    (hg : o.guard = none) (ho : o.op = .call { callee := .value f, args := args, argTypes := tys }) (hd : dstOK N o.dst = true) (hf : M.op f = some (.c (.one (.clo fid ids)))) (ha : argSV M args.toList = some svs) (hcap : capSV M ids = some caps)
    (hL : okL L M.nx = true) (hfit : Fit (svs ++ caps) (renL (rhoL L M.nx) args0)) (hh : HLe M.h (renH (rhoL L M.nx) h0)) (hk : nodupH h0 = true) (hrow : rowIds h0 = []) (ht : PureT C fid args0 h0 L.length v) (hv : v.ren (rhoL L M.nx) = v') : CallOK C N n0 ops o M v' :=
  CallOK.pure (rhoL L M.nx) hg ho hd hf ha hcap (Moves.list hL) hfit hh (nodupH_spec hk) hrow ht hv

/-- A call that makes objects, and hands back what leads to them. -/
def NewT (C : Cx) (f : FuncId) (args : List SV) (v : SV) (h1 : Heap) (n : Nat) : Prop := Triple C f args [] 0 (fun r h' nx' => r = .ret v ∧ h' = h1 ∧ nx' = n)
theorem killS_nil (s : St) : killS s [] = s := rfl
theorem JL.nw {f : Operand} {args : Array Operand} {tys : Array TypeId} {fid : FuncId} {svs targs : List SV} {v : SV} {h1 : Heap} {n : Nat}
    (hg : o.guard = none) (ho : o.op = .call { callee := .value f, args := args, argTypes := tys }) (hd : dstOK N o.dst = true) (hf : s.op f = some (.c (.one (.clo fid [])))) (ha : argSV s args.toList = some svs) (hfit : Fit svs targs)
    (hc : ∀ ρ, renL ρ targs = targs) (ht : NewT C fid targs v h1 n) (k : JL C N n0 ops l (St.putO { sl := s.sl, h := renH (fun i => s.nx + i) h1 ++ s.h, nx := s.nx + n } o.dst (v.ren fun i => s.nx + i)) Q) : JL C N n0 ops (o :: l) s Q := by
  refine JL.have_keys fun hkeys => ?_
  refine JL.call (h := []) (fr := s.h) (caps := []) (targs := targs) hg ho hd hf ha rfl (fun id o hm => by cases hm) .nil (fun id o hm => ⟨hm, fun h => by cases h⟩) hkeys (by rw [List.append_nil]; exact hfit) (by have := Triple.ren (fun i => s.nx + i) (Moves.all s.nx) ht; rw [hc] at this; exact this) ?_ ?_
  · rintro u h' nx' ⟨r0, h2, n1, ⟨rfl, rfl, rfl⟩, h3, rfl, rfl⟩
    simp only [Res.ren, Res.ret.injEq] at h3
    subst h3
    exact k
  · rintro u h' nx' ⟨r0, h2, n1, ⟨rfl, _⟩, h3, _⟩
    cases h3
end
end Go.Fw
/- The framework, part 27: a region up to a place; rows of one's own whose content is told by a law; a slice against nil. -/
set_option linter.unusedVariables false
set_option linter.unusedSimpArgs false
namespace Go.Fw
open Go

section
variable {C : Cx} {N n0 : Nat} {ops : Array Oper} {l : List Oper} {s s' : St} {Q : Exit → St → Prop} {o : Oper}
/-- A region, operation by operation. -/
theorem JC.regionL {id : Nat} (h : JL C N n0 ops ops.toList s Q) : JC C N n0 (.region id ops false) s Q := fun e γ S a w h1 h2 h3 => wp_region_list (h e γ S a w h1 h2 h3)
theorem ev_app : ∀ (l1 : List Oper) (l2 : List Oper) (s : St), ev C.T C.q N ops l1 s (fun r s' => JL C N n0 ops (r ++ l2) s' Q) → JL C N n0 ops (l1 ++ l2) s Q
  | [], l2, s, h => h
  | o :: r, l2, s, h => by
    unfold ev at h
    rw [List.cons_append]
    split at h
    · rename_i hg
      split at h
      · rename_i p s' hst
        exact JL.step hg hst h.1 (ev_app r l2 s' (fSt_out h.2))
      · exact h
    · rename_i j want hg
      split at h
      · rename_i d hd
        split at h
        · rename_i b hb
          cases hN : (Nat.blt d N && dstOK N o.dst) with
          | false => rw [hN] at h; exact h
          | true =>
            rw [hN] at h
            simp only [cond_true] at h
            simp only [Bool.and_eq_true] at hN
            have h := (two.out h)
            have hput : ∀ {e γ S a w}, Rep e γ S s a w → Rep e γ S (s.put d (litS (.bool b))) a w := by
              intro e γ S a w hR
              refine { hR with slots := fun d' v' h' => ?_ }
              simp only [St.put, lk_cons] at h'
              split at h'
              · rename_i he; subst he; simp only [Option.some.injEq] at h'; subst h'; exact hR.slots _ _ hb
              · exact hR.slots _ _ h'
            have hs : lk (s.put d (litS (.bool b))).sl d = some (litS (.bool b)) := by simp only [St.put, lk_cons, if_true]
            have key : JL C N n0 ops (o :: (r ++ l2)) (s.put d (litS (.bool b))) Q := by
              have h2 := two.out h
              split at h2
              · rename_i hy
                have hbw : b = want := by cases want <;> cases b <;> first | rfl | cases hy
                refine JL.guard_yes hg hd (by rw [← hbw]; exact hs) hN.1 ?_
                split at h2
                · rename_i p s' hst
                  exact JL.step rfl hst h2.1 (ev_app r l2 s' (fSt_out h2.2))
                · exact h2
              · rename_i hy
                have hbw : b = !want := by cases want <;> cases b <;> first | rfl | cases hy
                exact JL.guard_no hg hd (by rw [← hbw]; exact hs) hN.1 hN.2 (ev_app r l2 _ h2)
            exact fun e γ S a w h1 h0 hR => key e γ S a w h1 h0 (hput hR)
        · rename_i hu
          cases hN : (Nat.blt d N && dstOK N o.dst) with
          | false => rw [hN] at h; exact h
          | true =>
            rw [hN] at h
            simp only [cond_true] at h
            simp only [Bool.and_eq_true] at hN
            exact JL.guard_undef hg hd hu hN.1 hN.2 (ev_app r l2 _ h)
        · exact h
      · exact h
/-- The first k operations. -/
theorem JL.upto (k : Nat) (h : ev C.T C.q N ops (l.take k) s (fun r s' => JL C N n0 ops (r ++ l.drop k) s' Q)) : JL C N n0 ops l s Q := by
  have := ev_app (C := C) (n0 := n0) (Q := Q) (l.take k) (l.drop k) s h
  rwa [List.take_append_drop] at this

theorem headD_of {α : Type} {l : List α} {k : Nat} {x d : α} (h : l[k]? = some x) : (l.drop k).headD d = x := by
  obtain ⟨h1, h2⟩ := List.getElem?_eq_some_iff.1 h
  rw [List.drop_eq_getElem_cons h1, List.headD_cons, h2]
/-- A load from a row of one's own. -/
theorem JL.loadE {a : Operand} {t : TypeId} {i : TI} {id sz k j : Nat} {e : TypeId} {rs : List (List D)} {r : List D} (hg : o.guard = none) (ho : o.op = .load t a) (hd : dstOK N o.dst = true) (hi : C.T t = some i)
    (ha : s.op a = some (one (.eptr id sz k j))) (hl : lk s.h id = some (.row e sz rs)) (hr : rs[k]? = some r) (hj : j ≤ sz) (hp : (partS i (r.drop j) 0).1)
    (k' : JL C N n0 ops l (s.putO o.dst (partS i (r.drop j) 0).2) Q) : JL C N n0 ops (o :: l) s Q := by
  have hc : s.cells (.eptr id sz k j) = some (r.drop j) := by simp only [St.cells, hl, headD_of hr]
  refine JL.step (p := s.side (.eptr id sz k j) ∧ (partS i (r.drop j) 0).1) hg ?_ ⟨?_, hp⟩ k'
  · have h1 : vopA C.T C.q s o = some (s.side (.eptr id sz k j) ∧ (partS i (r.drop j) 0).1, (partS i (r.drop j) 0).2) := by
      have : vop C.T C.q s o = some (s.side (.eptr id sz k j) ∧ (partS i (r.drop j) 0).1, (partS i (r.drop j) 0).2) := by
        simp only [vop, ho, hi, ha, one, hc]
      simp only [vopA, this]
    simp only [stepOp, hd, cond_true, h1]
  · simp only [St.side, hl]
    exact ⟨trivial, (List.getElem?_eq_some_iff.1 hr).1, hj⟩
/-- A store into a row of one's own. -/
theorem JL.storeE {x y : Operand} {t : TypeId} {i : TI} {id sz k j : Nat} {e : TypeId} {rs : List (List D)} {r xs : List D} {v : SV} (hg : o.guard = none) (ho : o.op = .store t x y) (hdst : o.dst = none) (hi : C.T t = some i)
    (hx : s.op x = some (one (.eptr id sz k j))) (hy : s.op y = some v) (hv : s.cellsOf v = some xs) (hl : lk s.h id = some (.row e sz rs)) (hr : rs[k]? = some r) (hlen : xs.length = i.sz) (hj : j + xs.length ≤ sz)
    (k' : JL C N n0 ops l { s with h := setO s.h id (.row e sz (rs.set k (splice r j xs))) } Q) : JL C N n0 ops (o :: l) s Q := by
  have he : effOp C.T s o = some (sz = sz ∧ k < rs.length ∧ xs.length = i.sz ∧ j + xs.length ≤ sz, { s with h := setO s.h id (.row e sz (rs.set k (splice r j xs))) }, none) := by
    simp only [effOp, ho, hi, hx, hy, one, hv, hl, headD_of hr]
  refine JL.step (p := sz = sz ∧ k < rs.length ∧ xs.length = i.sz ∧ j + xs.length ≤ sz) (s' := { s with h := setO s.h id (.row e sz (rs.set k (splice r j xs))) }) hg ?_ ⟨rfl, (List.getElem?_eq_some_iff.1 hr).1, hlen, hj⟩ k'
  have h1 : vopA C.T C.q s o = none := by simp only [vopA, vop, vopX, ho]
  have h2 : newOp C.T s o = none := by simp only [newOp, ho]
  simp only [stepOp, hdst, dstOK, cond_true, h1, ho, h2, he, St.putO]
/-- A slice against nil: what is nil has no element. -/
theorem JL.eqNil {x y : Operand} {t ty : TypeId} {i : TI} {el : TypeId} {sz n : Nat} {f : Nat → List T} (hg : o.guard = none) (ho : o.op = .binOp .eql t x y ty) (hd : dstOK N o.dst = true) (hi : C.T t = some i) (hk : i.k = .slice el)
    (hx : s.op x = some (.c (.one (.data (.rows sz n f))))) (hy : s.op y = some (litS (.slice none 0 0)))
    (k : ∀ b, (b = true → n = 0) → JL C N n0 ops l (s.putO o.dst (litS (.bool b))) Q) : JL C N n0 ops (o :: l) s Q := by
  intro e γ S a w hN h0 hR
  subst hN
  refine wpList_plain hg fun K hK => ?_
  have hv : RD γ S w (.data (.rows sz n f)) (a.eval x) := hR.op hx
  have hyv := litS_run rfl (hR.op hy)
  have hu := Tab.slice C.hT hi hk
  generalize hux : a.eval x = u at hv
  cases hv with
  | data hv =>
    cases hv with
    | rows sz n f A cap b ofs V hn hb hA hl hc hr =>
      have key : ∀ d, (Op.equalIn (d + 1) t (.slice A n cap) (.slice none 0 0)).run C.P w = .ok A.isNone w := by
        intro d
        cases A <;> simp only [Op.equalIn, Sem.run_bind, run_underlying hu, Result.andThen_ok, Sem.run_pure] <;> rfl
      have hrun : (execOp a.eval o).run C.P w = .ok (.value (.bool A.isNone)) w := by
        simp only [execOp, ho, hux, hyv, eqGuard_at_slice, Sem.run_bind, Sem.run_pure, Result.andThen_ok, binOp, Op.equal]
        rw [show (Op.equalIn Op.maxDepth t (.slice A n cap) (.slice none 0 0)).run C.P w = .ok A.isNone w from key 9999]
        rfl
      refine upon_runs (r := some _) hrun (hK _ _ (k A.isNone (fun hA' => ?_) e γ S _ w rfl h0 (hR.putO (v := litS (.bool A.isNone)) (.data (.lit _)) hd)))
      rcases Nat.eq_zero_or_pos n with h | h
      · exact h
      · rw [(hA h).1] at hA'; cases hA'
end
end Go.Fw
/- The framework, part 28: drawn regions in which one operation makes objects. -/
set_option linter.unusedVariables false
set_option linter.unusedSimpArgs false
namespace Go.Fw
open Go

/-! ### What an operation yields does not look at the next id -/
section
variable {T : Tab} {q : EqT} {s : St} {n : Nat}
theorem op_nx (x : Operand) : St.op { sl := s.sl, h := s.h, nx := n } x = s.op x := by cases x <;> rfl
theorem cells_nx (d : D) : St.cells { sl := s.sl, h := s.h, nx := n } d = s.cells d := by cases d <;> rfl
theorem side_nx (d : D) : St.side { sl := s.sl, h := s.h, nx := n } d = s.side d := by cases d <;> rfl
theorem boxRef_nx (o : Option SV) : boxRef { sl := s.sl, h := s.h, nx := n } o = boxRef s o := by unfold boxRef; rfl
theorem refIds_nx : ∀ l : List Operand, refIds { sl := s.sl, h := s.h, nx := n } l = refIds s l
  | [] => rfl
  | x :: r => by simp only [refIds, op_nx, boxRef_nx, refIds_nx r]
theorem bnd_nx (o : Option Operand) (d : Int) : bnd { sl := s.sl, h := s.h, nx := n } o d = bnd s o d := by unfold bnd; simp only [op_nx]
theorem solid_nx (d : D) : St.solid { sl := s.sl, h := s.h, nx := n } d = s.solid d := by cases d <;> rfl
theorem cellsOf_nx (v : SV) : St.cellsOf { sl := s.sl, h := s.h, nx := n } v = s.cellsOf v := by
  have : St.solid { sl := s.sl, h := s.h, nx := n } = s.solid := funext solid_nx
  unfold St.cellsOf; rw [this]
theorem fillD_nx (place : Nat → Option (Nat × Nat)) : ∀ (l : List (Nat × Operand)) (cs : List D), fillD { sl := s.sl, h := s.h, nx := n } place cs l = fillD s place cs l
  | [], _ => rfl
  | (i, x) :: r, cs => by simp only [fillD, op_nx, cellsOf_nx, fillD_nx place r]
theorem builtD_nx (t : TypeId) (parts : List (Nat × Operand)) : builtD T { sl := s.sl, h := s.h, nx := n } t parts = builtD T s t parts := by
  unfold builtD; simp only [fillD_nx]
theorem vop_nx (o : Oper) : vop T q { sl := s.sl, h := s.h, nx := n } o = vop T q s o := by
  unfold vop; simp only [op_nx, cells_nx, side_nx, refIds_nx, bnd_nx]
theorem vopX_nx (o : Oper) : vopX T { sl := s.sl, h := s.h, nx := n } o = vopX T s o := by
  unfold vopX; simp only [op_nx, bnd_nx]
theorem vopB_nx (N : Nat) (o : Oper) : vopB T q N { sl := s.sl, h := s.h, nx := n } o = vopB T q N s o := by
  unfold vopB vopA; simp only [vop_nx, vopX_nx, builtD_nx]
end

structure Mk where
  c : Nat
  h1 : Heap
  n : Nat
def mkAt : Option Mk → Nat → St → St
  | some k, i, s => bif Nat.beq k.c i then { s with h := k.h1 ++ s.h, nx := s.nx + k.n } else s
  | none, _, s => s
theorem mkAt_sl (mk : Option Mk) (i : Nat) (s : St) : (mkAt mk i s).sl = s.sl := by
  cases mk with
  | none => rfl
  | some k => simp only [mkAt]; cases Nat.beq k.c i <;> rfl
def atM (l : List Oper) (val : Nat → SV) (mk : Option Mk) (s : St) : List Nat → St
  | [] => s
  | i :: σ => (mkAt mk i (atM l val mk s σ)).putO (dstAt l i) (val i)
/-- The state behind all of them, in the program's order. -/
def putAllM (mk : Option Mk) : St → Nat → List Oper → List SV → St
  | s, i, o :: r, v :: vs => putAllM mk ((mkAt mk i s).putO o.dst v) (i + 1) r vs
  | s, _, _, _ => s
theorem atM_base {l : List Oper} {val : Nat → SV} {mk : Option Mk} {s : St} {t : Nat} : ∀ {σ : List Nat}, (∀ i, i ∈ σ → dstAt l i ≠ some t) → lk (atM l val mk s σ).sl t = lk s.sl t
  | [], _ => rfl
  | i :: σ, h => by
    simp only [atM, putO_sl, mkAt_sl]
    rw [if_neg (h i List.mem_cons_self)]
    exact atM_base (fun j hj => h j (List.mem_cons_of_mem _ hj))
theorem atM_dst {l : List Oper} {val : Nat → SV} {mk : Option Mk} {s : St} {t i : Nat} : ∀ {σ : List Nat}, (∀ j, j ∈ σ → dstAt l j = some t → j = i) → i ∈ σ → dstAt l i = some t → lk (atM l val mk s σ).sl t = some (val i)
  | [], _, h, _ => by cases h
  | j :: σ, hd, h, ht => by
    simp only [atM, putO_sl, mkAt_sl]
    by_cases hj : dstAt l j = some t
    · rw [if_pos hj, hd j List.mem_cons_self hj]
    · rw [if_neg hj]
      rcases List.mem_cons.1 h with rfl | h
      · exact absurd ht hj
      · exact atM_dst (fun k hk => hd k (List.mem_cons_of_mem _ hk)) h ht
/-- The objects: as they were, or with the new ones. -/
theorem atM_h (l : List Oper) (val : Nat → SV) (mk : Option Mk) (s : St) : ∀ σ : List Nat, σ.Nodup →
    ((∀ k, mk = some k → k.c ∉ σ) → (atM l val mk s σ).h = s.h ∧ (atM l val mk s σ).nx = s.nx) ∧ (∀ k, mk = some k → k.c ∈ σ → (atM l val mk s σ).h = k.h1 ++ s.h ∧ (atM l val mk s σ).nx = s.nx + k.n)
  | [], _ => ⟨fun _ => ⟨rfl, rfl⟩, fun _ _ h => by cases h⟩
  | i :: σ, hn => by
    obtain ⟨hi, hn⟩ := List.nodup_cons.1 hn
    obtain ⟨h1, h2⟩ := atM_h l val mk s σ hn
    simp only [atM, putO_h, putO_nx]
    constructor
    · intro h
      obtain ⟨h3, h4⟩ := h1 (fun k hk hm => h k hk (List.mem_cons_of_mem _ hm))
      cases mk with
      | none => exact ⟨h3, h4⟩
      | some k =>
        have : Nat.beq k.c i = false := by
          cases hb : Nat.beq k.c i with
          | false => rfl
          | true => exact absurd (by rw [Nat.eq_of_beq_eq_true hb]; exact List.mem_cons_self) (h k rfl)
        simp only [mkAt, this, cond_false]; exact ⟨h3, h4⟩
    · rintro k rfl hk
      rcases List.mem_cons.1 hk with he | hk
      · subst he
        obtain ⟨h3, h4⟩ := h1 (fun k' hk' hm => by cases hk'; exact hi hm)
        simp only [mkAt, show Nat.beq k.c k.c = true from by simp, cond_true, h3, h4]
        exact ⟨trivial, trivial⟩
      · obtain ⟨h3, h4⟩ := h2 k rfl hk
        have : Nat.beq k.c i = false := by
          cases hb : Nat.beq k.c i with
          | false => rfl
          | true => rw [Nat.eq_of_beq_eq_true hb] at hk; exact absurd hk hi
        simp only [mkAt, this, cond_false]; exact ⟨h3, h4⟩

/-- Less is said, of the older objects. -/
structure SubM (M s : St) : Prop where
  sl : ∀ d v, lk M.sl d = some v → lk s.sl d = some v
  h : ∃ h1, s.h = h1 ++ M.h
  nx : M.nx ≤ s.nx
theorem Rep.subM {M s : St} {e : Env} {γ : Nat → Option Value} {S : Nat → Prop} {a : Act} {w : World} (h : SubM M s) (hR : Rep e γ S s a w) : Rep e γ S { sl := M.sl, h := M.h, nx := s.nx } a w := by
  obtain ⟨h1, hh⟩ := h.h
  have hm : ∀ id o, (id, o) ∈ M.h → (id, o) ∈ s.h := fun id o hm => by rw [hh]; exact List.mem_append_right _ hm
  have hk := hR.heap.keys
  rw [hh, List.map_append] at hk
  exact { hR with slots := fun d v hd => hR.slots d v (h.sl d v hd), heap := ⟨fun id o x => hR.heap.obj id o (hm _ _ x), fun id o id' o' x y => hR.heap.apart id o id' o' (hm _ _ x) (hm _ _ y), (List.nodup_append.1 hk).2.1⟩, fresh := fun id o x => hR.fresh id o (hm _ _ x), own := fun id o b x => hR.own id o b (hm _ _ x), ids := fun id o x => hR.ids id o (hm _ _ x), rows := fun id o x => hR.rows id o (hm _ _ x) }
theorem SubM.op {M s : St} (h : SubM M s) {x : Operand} {v : SV} (hx : M.op x = some v) : s.op x = some v := by
  cases x with
  | tmp t => exact h.sl _ _ hx
  | _ => exact hx
theorem SubM.argSV {M s : St} (h : SubM M s) : ∀ {xs : List Operand} {vs : List SV}, argSV M xs = some vs → argSV s xs = some vs
  | [], vs, hx => hx
  | x :: r, vs, hx => by
    unfold Fw.argSV at hx ⊢
    split at hx
    · rename_i v l h1 h2
      rw [h.op h1, SubM.argSV h h2]; exact hx
    · cases hx
theorem SubM.lk {M s : St} (h : SubM M s) (hk : (hids s.h).Nodup) {i : Nat} {o : O} (hi : lk M.h i = some o) : lk s.h i = some o := by
  obtain ⟨h1, hh⟩ := h.h
  exact lk_of_mem hk (by rw [hh]; exact List.mem_append_right _ (lk_mem hi))
theorem SubM.capSV {M s : St} (h : SubM M s) (hk : (hids s.h).Nodup) : ∀ {xs : List Nat} {vs : List SV}, capSV M xs = some vs → capSV s xs = some vs
  | [], vs, hx => hx
  | x :: r, vs, hx => by
    unfold Fw.capSV at hx ⊢
    split at hx
    · rename_i t cs l h1 h2
      rw [h.lk hk h1, SubM.capSV h hk h2]; exact hx
    · cases hx
theorem SubM.hle {M s : St} (h : SubM M s) (hk : (hids s.h).Nodup) : ∀ {r : Heap}, HLe M.h r → HLe s.h r
  | [], _ => trivial
  | (i, o) :: r, ⟨h1, h2⟩ => ⟨h.lk hk h1, SubM.hle h hk h2⟩

def CallM (C : Cx) (N n0 : Nat) (ops : Array Oper) (o : Oper) (M : St) (v : SV) : Prop :=
  ∀ e γ S s a w, e.N = N → e.n0 = n0 → SubM M s → Rep e γ S s a w → ∀ (K : Act → World → Prop) (Q : Exit → Act → World → Prop), (∀ γ' S' a' w', Rep e γ' S' (s.putO o.dst v) a' w' → K a' w') → o.wp C.P a w K Q
/-- A call that makes objects. -/
def MakeM (C : Cx) (N n0 : Nat) (ops : Array Oper) (o : Oper) (M : St) (v : SV) (h1 : Heap) (n : Nat) : Prop :=
  ∀ e γ S s a w, e.N = N → e.n0 = n0 → (∀ d v, lk M.sl d = some v → lk s.sl d = some v) → s.h = M.h → s.nx = M.nx → Rep e γ S s a w → ∀ (K : Act → World → Prop) (Q : Exit → Act → World → Prop),
    (∀ γ' S' a' w', Rep e γ' S' (St.putO { s with h := h1 ++ s.h, nx := s.nx + n } o.dst v) a' w' → K a' w') → o.wp C.P a w K Q
section
variable {C : Cx} {N n0 : Nat} {ops : Array Oper} {l : List Oper} {s s' M : St} {Q Q' : Exit → St → Prop} {o : Oper}
theorem wp_of_JL {s2 : St} (hg : o.guard = none) (h : JL C N n0 ops [o] s (fun x s' => x = .normal ∧ s' = s2)) {e : Env} {γ : Nat → Option Value} {S : Nat → Prop} {a : Act} {w : World} (h1 : e.N = N) (h2 : e.n0 = n0) (hR : Rep e γ S s a w)
    (K : Act → World → Prop) (Q : Exit → Act → World → Prop) (hK : ∀ γ' S' a' w', Rep e γ' S' s2 a' w' → K a' w') : o.wp C.P a w K Q := by
  have hw := h e γ S a w h1 h2 hR
  unfold wpList at hw
  rw [if_pos (by simp [Region.wanted, hg])] at hw
  rcases hw with hw | ⟨_, a', w', s', γ', S', ⟨hx, _⟩, _⟩
  · refine wp_monoQ ?_ ?_ hw
    · rintro a' w' ⟨s', γ', S', ⟨_, rfl⟩, hr⟩; exact hK _ _ _ _ hr
    · rintro x a' w' hne ⟨s', γ', S', ⟨hx, _⟩, _⟩; exact absurd hx hne
  · cases hx
theorem CallM.p0 {f : Operand} {args : Array Operand} {tys : Array TypeId} {fid : FuncId} {svs targs : List SV} {v : SV}
    (hg : o.guard = none) (ho : o.op = .call { callee := .value f, args := args, argTypes := tys }) (hd : dstOK N o.dst = true) (hf : M.op f = some (.c (.one (.clo fid [])))) (ha : argSV M args.toList = some svs) (hfit : Fit svs targs)
    (hc : ∀ ρ, renL ρ targs = targs) (ht : PureT C fid targs [] 0 v) (hv : ∀ ρ, v.ren ρ = v) : CallM C N n0 ops o M v :=
  fun e γ S s a w h1 h2 hs hR K Q hK => wp_of_JL (ops := ops) hg (JL.p0 hg ho hd (hs.op hf) (hs.argSV ha) hfit hc ht hv (JL.nil ⟨rfl, rfl⟩)) h1 h2 hR K Q hK
theorem CallM.pl (L : List Nat) {f : Operand} {args : Array Operand} {tys : Array TypeId} {fid : FuncId} {ids : List Nat} {svs caps args0 : List SV} {h0 : Heap} {v v' : SV}
    (hg : o.guard = none) (ho : o.op = .call { callee := .value f, args := args, argTypes := tys }) (hd : dstOK N o.dst = true) (hf : M.op f = some (.c (.one (.clo fid ids)))) (ha : argSV M args.toList = some svs) (hcap : capSV M ids = some caps)
    (hL : okL L M.nx = true) (hfit : ∀ n, Fit (svs ++ caps) (renL (rhoL L n) args0)) (hh : ∀ n, HLe M.h (renH (rhoL L n) h0)) (hk : nodupH h0 = true) (hrow : rowIds h0 = []) (ht : PureT C fid args0 h0 L.length v) (hv : ∀ n, v.ren (rhoL L n) = v') : CallM C N n0 ops o M v' := by
  intro e γ S s a w h1 h2 hs hR K Q hK
  have hkeys : (hids s.h).Nodup := hR.heap.keys
  have hL' : ∀ {L : List Nat} {n m : Nat}, okL L n = true → n ≤ m → okL L m = true := by
    intro L
    induction L with
    | nil => intro n m _ _; rfl
    | cons a r ih =>
      intro n m h hnm
      simp only [okL, Bool.and_eq_true] at h ⊢
      have := blt_lt h.1.1
      exact ⟨⟨Nat.ble_eq_true_of_le (by omega : a + 1 ≤ m), h.1.2⟩, ih h.2 hnm⟩
  exact wp_of_JL (ops := ops) hg (JL.pl L hg ho hd (hs.op hf) (hs.argSV ha) (hs.capSV hkeys hcap) (hL' hL hs.nx) (hfit _) (hs.hle hkeys (hh _)) hk hrow ht (hv _) (JL.nil ⟨rfl, rfl⟩)) h1 h2 hR K Q hK
theorem MakeM.nw {f : Operand} {args : Array Operand} {tys : Array TypeId} {fid : FuncId} {svs targs : List SV} {v : SV} {h1 : Heap} {n : Nat} {v' : SV} {h1' : Heap}
    (hg : o.guard = none) (ho : o.op = .call { callee := .value f, args := args, argTypes := tys }) (hd : dstOK N o.dst = true) (hf : M.op f = some (.c (.one (.clo fid [])))) (ha : argSV M args.toList = some svs) (hfit : Fit svs targs)
    (hc : ∀ ρ, renL ρ targs = targs) (ht : NewT C fid targs v h1 n) (hv : (v.ren fun i => M.nx + i) = v') (hh : renH (fun i => M.nx + i) h1 = h1') : MakeM C N n0 ops o M v' h1' n := by
  intro e γ S s a w hN h0 hs1 hs2 hs3 hR K Q hK
  have hs : SubM M s := ⟨hs1, ⟨[], by rw [hs2]; rfl⟩, by omega⟩
  refine wp_of_JL (ops := ops) hg (JL.nw hg ho hd (hs.op hf) (hs.argSV ha) hfit hc ht (JL.nil ⟨rfl, rfl⟩)) hN h0 hR K Q ?_
  intro γ' S' a' w' hr
  subst hv; subst hh
  rw [hs3] at hr
  exact hK γ' S' a' w' (by rw [hs3]; exact hr)
end
end Go.Fw
