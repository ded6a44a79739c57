/- The framework, part 17: a function's contract out of its body, results in memory too. -/
import Derived.Test.YtlhfajmcnbcabaaFwC
import Derived.Laws.BitsLemmas
import Derived.Orders
import Derived.Laws.RangeAny
set_option linter.unusedVariables false
set_option linter.unusedSimpArgs false
namespace Go.Fw
open Go

section
variable {C : Cx} {N n0 : Nat} {ops : Array Oper} {l : List Oper} {s s' : St} {Q Q' : Exit → St → Prop} {o : Oper} {c c1 c2 : Code}
def oneRes (tmps : Array Value) : ResultVar → Sem Value
  | .tmp t => pure (tmps.getD t undef)
  | .cell a t => do loadVar t (← asAddr (tmps.getD a undef))
theorem results_list (fn : Func) (tmps : Array Value) : results fn tmps = (do let vs ← fn.results.toList.mapM (oneRes tmps); pure (match vs with | [v] => v | vs => .tuple vs.toArray)) := by
  unfold results
  rw [Array.mapM_eq_mapM_toList]
  simp only [map_eq_pure_bind, bind_assoc, pure_bind]
  congr 1
  funext vs
  congr 1
  rcases vs with _ | ⟨v, _ | ⟨u, r⟩⟩ <;> simp
theorem resS_run {P : Program} {T : Tab} (hT : T.OK P) {e : Env} {γ : Nat → Option Value} {S : Nat → Prop} {a : Act} {w : World} (hR : Rep e γ S s a w) {r : ResultVar} {p : Prop} {v : Cv} (h : resS T s r = some (p, v)) (hp : p) :
    ∃ u, (oneRes a.tmps r).run P w = .ok u w ∧ RC γ S w v u := by
  unfold resS at h
  split at h
  · rename_i t
    split at h
    · rename_i v' hl
      simp only [Option.some.injEq, Prod.mk.injEq] at h; obtain ⟨rfl, rfl⟩ := h
      exact ⟨_, rfl, hR.slots _ _ hl⟩
    · cases h
  · rename_i t ty
    split at h
    · rename_i i d hi hl
      split at h
      · rename_i cs hcs
        split at h
        · rename_i v' hv
          simp only [Option.some.injEq, Prod.mk.injEq] at h; obtain ⟨rfl, rfl⟩ := h
          obtain ⟨b, o, vs, hpt, hc, hr⟩ := hR.cells hcs (hR.slots _ _ hl) (St.side_of hp.1)
          obtain ⟨u, h1, h2⟩ := loadS_run hT hi hc hr hp.2
          rw [hv] at h2
          refine ⟨u, ?_, h2⟩
          simp only [oneRes, hpt, asAddr, Sem.run_bind, Sem.run_pure, Result.andThen_ok, h1]
        · cases h
      · cases h
    · cases h
theorem ressS_run {P : Program} {T : Tab} (hT : T.OK P) {e : Env} {γ : Nat → Option Value} {S : Nat → Prop} {a : Act} {w : World} (hR : Rep e γ S s a w) : ∀ {rs : List ResultVar} {p : Prop} {vs : List Cv}, ressS T s rs = some (p, vs) → p →
    ∃ us, (rs.mapM (oneRes a.tmps)).run P w = .ok us w ∧ RCs γ S w vs us
  | [], p, vs, h, _ => by
    simp only [ressS, Option.some.injEq, Prod.mk.injEq] at h; obtain ⟨_, rfl⟩ := h
    exact ⟨[], by simp, trivial⟩
  | r :: rs, p, vs, h, hp => by
    unfold ressS at h
    split at h
    · rename_i p1 v q1 vs' h1 h2
      simp only [Option.some.injEq, Prod.mk.injEq] at h; obtain ⟨rfl, rfl⟩ := h
      obtain ⟨u, h3, h4⟩ := resS_run hT hR h1 hp.1
      obtain ⟨us, h5, h6⟩ := ressS_run hT hR h2 hp.2
      exact ⟨u :: us, by simp [List.mapM_cons, Sem.run_bind, h3, h5], h4, h6⟩
    · cases h
theorem RCs.length {γ : Nat → Option Value} {S : Nat → Prop} {w : World} : ∀ {xs : List Cv} {vs : List Value}, RCs γ S w xs vs → xs.length = vs.length
  | [], [], _ => rfl
  | _ :: _, _ :: _, ⟨_, r⟩ => by simp [RCs.length r]
theorem ressS_length {T : Tab} : ∀ {rs : List ResultVar} {p : Prop} {vs : List Cv}, ressS T s rs = some (p, vs) → vs.length = rs.length
  | [], p, vs, h => by simp only [ressS, Option.some.injEq, Prod.mk.injEq] at h; rw [← h.2]; rfl
  | r :: rs, p, vs, h => by
    unfold ressS at h
    split at h
    · rename_i h2
      simp only [Option.some.injEq, Prod.mk.injEq] at h
      rw [← h.2, List.length_cons, List.length_cons, ressS_length h2]
    · cases h
theorem retS_run {P : Program} {T : Tab} (hT : T.OK P) {e : Env} {γ : Nat → Option Value} {S : Nat → Prop} {a : Act} {w : World} (hR : Rep e γ S s a w) {fn : Func} {p : Prop} {v : SV} (h : retS T s fn.results.toList = some (p, v)) (hp : p) :
    ∃ u, (results fn a.tmps).run P w = .ok u w ∧ RV γ S w v u := by
  rw [results_list]
  generalize fn.results.toList = rs at h
  unfold retS at h
  split at h
  · rename_i r
    split at h
    · rename_i p' v' h1
      simp only [Option.some.injEq, Prod.mk.injEq] at h; obtain ⟨rfl, rfl⟩ := h
      obtain ⟨u, h3, h4⟩ := resS_run hT hR h1 hp
      exact ⟨u, by simp [Sem.run_bind, h3], h4⟩
    · cases h
  · rename_i hne
    split at h
    · rename_i p' vs h1
      simp only [Option.some.injEq, Prod.mk.injEq] at h; obtain ⟨rfl, rfl⟩ := h
      obtain ⟨us, h3, h4⟩ := ressS_run hT hR h1 hp
      have hl : us.length = rs.length := (h4.length).symm.trans (ressS_length h1)
      refine ⟨.tuple us.toArray, ?_, us, rfl, h4⟩
      simp only [Sem.run_bind, h3, Result.andThen_ok, Sem.run_pure]
      rcases us with _ | ⟨u, _ | ⟨u2, r⟩⟩
      · rfl
      · exfalso
        match rs, hl, hne with
        | [r], _, hne => exact hne r rfl
      · rfl
    · cases h

/-- What is asked where a body ends. -/
def endQ (T : Tab) (rs : List ResultVar) (QR : Res → Heap → Nat → Prop) (s : St) : Prop :=
  match retS T s rs with
  | some (p, v) => p ∧ QR (.ret v) s.h s.nx
  | none => False
def bodyQ (C : Cx) (rs : List ResultVar) (n0 : Nat) (QR : Res → Heap → Nat → Prop) : Exit → St → Prop
  | .normal, s => ∃ s', Le n0 s s' ∧ endQ C.T rs QR s'
  | .ret, s => ∃ s', Le n0 s s' ∧ endQ C.T rs QR s'
  | .panic [p], s => p = { v := p.v, recovered := false } ∧ QR (.pan p.v) s.h s.nx
  | _, _ => False
theorem Triple.run {f : FuncId} {fn : Func} {args : List SV} {h : Heap} {nx : Nat} {QR : Res → Heap → Nat → Prop} (hf : C.P.funcs[f]? = some fn) (hb : fn.body = some c) (hn : (fn.name == "runtime.NumGoroutine") = false)
    (N : Nat) (hN : fn.ntmps = N) (rs : List ResultVar) (hrs : fn.results.toList = rs) (hlen : Nat.ble args.length N = true)
    (k : JC C N nx c ⟨zipSlots 0 args, h, nx⟩ (bodyQ C rs nx QR)) : Triple C f args h nx QR := by
  subst hN
  subst hrs
  refine ⟨enters_of hf (by rw [hb]; rfl) hn, fun γ S w vs hv hh hfr hnew hsw => ?_⟩
  refine calls_of_wp hf hb ?_
  have hvl := hv.length
  have hle := Nat.le_of_ble_eq_true hlen
  let e : Env := { N := fn.ntmps, w0 := w, S0 := S, γ0 := γ, n0 := nx, H0 := hids h, R0 := rowIds h }
  have hR : Rep e γ S ⟨zipSlots 0 args, h, nx⟩ { tmps := vs.toArray ++ Array.replicate (fn.ntmps - vs.toArray.size) undef, defers := [] } w := by
    refine { size := by simp [e]; omega, defers := rfl, slots := ?_, heap := hh, fresh := hfr, kept := ⟨rfl, rfl, rfl, Nat.le_refl _, Nat.le_refl _, fun _ _ _ => rfl⟩, sw := hsw, s0 := fun _ h => h, sin := fun _ h => .inl h, own := fun id o b h1 h2 => .inl ⟨List.mem_map.2 ⟨(id, o), h1, rfl⟩, h2⟩, gam := fun _ _ _ => rfl,
             ids := fun id o h1 => .inl (List.mem_map.2 ⟨(id, o), h1, rfl⟩), nx := Nat.le_refl _, h0 := ?_, rows := fun id o h1 _ h2 => rowIds_mem h1 h2, new := hnew }
    · intro d v hd
      obtain ⟨_, h1⟩ := zipSlots_get hd
      obtain ⟨u, h2, h3⟩ := hv.get h1
      have : (vs.toArray ++ Array.replicate (fn.ntmps - vs.toArray.size) undef).getD d undef = u := by
        rw [Array.getD_eq_getD_getElem?, Array.getElem?_append_left (by have := (List.getElem?_eq_some_iff.1 h2).1; simpa using this)]
        simp at h2 ⊢; simp [h2]
      rw [this]; exact h3
    · intro id hid
      obtain ⟨⟨id', o⟩, h1, rfl⟩ := List.mem_map.1 hid
      exact hfr _ _ h1
  refine wp_mono (k e γ S _ w rfl rfl hR) ?_
  rintro x a' w' ⟨s', γ', S', hq, hr⟩
  have haft : ∀ {γ' : Nat → Option Value} {S' : Nat → Prop} {s' : St}, Rep e γ' S' s' a' w' → After γ S w h nx γ' S' w' s'.h s'.nx := fun hr =>
    { heap := hr.heap, fresh := hr.fresh, le := hr.nx, new := hr.new, kept := hr.kept, s0 := hr.s0, sin := hr.sin, sw := hr.sw, own := hr.own, gam := hr.gam, ids := hr.ids, rows := hr.rows }
  have hend : ∀ {γ' : Nat → Option Value} {S' : Nat → Prop} {s' : St}, Rep e γ' S' s' a' w' → (∃ s2, Le nx s' s2 ∧ endQ C.T fn.results.toList QR s2) → ∃ v, (results fn a'.tmps).run C.P w' = .ok v w' ∧ ∃ r h' nx' γ' S', QR r h' nx' ∧ RRes γ' S' w' r (.returned v) ∧ After γ S w h nx γ' S' w' h' nx' := by
    rintro γ' S' s' hr ⟨s2, hle, hq⟩
    obtain ⟨γ2, S2, hr2⟩ := hle e γ' S' a' w' rfl hr
    unfold endQ at hq
    split at hq
    · rename_i p v hv
      obtain ⟨u, h3, h4⟩ := retS_run C.hT hr2 hv hq.1
      exact ⟨u, h3, .ret v, s2.h, s2.nx, γ2, S2, hq.2, h4, haft hr2⟩
    · exact hq.elim
  cases x with
  | normal => exact ⟨hr.defers, hend hr hq⟩
  | ret => exact ⟨hr.defers, hend hr hq⟩
  | panic chain =>
    simp only [bodyQ] at hq
    split at hq <;> try contradiction
    rename_i p heq
    cases heq
    obtain ⟨h1, h2⟩ := hq
    refine ⟨hr.defers, .pan p.v, _, _, γ', S', h2, ?_, haft hr⟩
    show [p] = [_]
    rw [← h1]
  | exit id => exact hq.elim
  | goto l => exact hq.elim
  | outgrown => exact hq.elim
end
end Go.Fw
/- The framework, part 18: calls that leave all as it is. -/
set_option linter.unusedVariables false
set_option linter.unusedSimpArgs false
namespace Go.Fw
open Go

/-- A call that hands back v and leaves all as it was. -/
def PureT (C : Cx) (f : FuncId) (args : List SV) (h : Heap) (nx : Nat) (v : SV) : Prop := Triple C f args h nx (fun r h' nx' => r = .ret v ∧ h' = h ∧ nx' = nx)

theorem lk_of_mem {α : Type} : ∀ {l : List (Nat × α)} {d : Nat} {v : α}, (l.map (·.1)).Nodup → (d, v) ∈ l → lk l d = some v
  | [], _, _, _, h => by simp at h
  | (k, x) :: r, d, v, hn, h => by
    simp only [List.map_cons, List.nodup_cons] at hn
    rw [lk_cons]
    rcases List.mem_cons.1 h with he | h
    · cases he; rw [if_pos rfl]
    · rw [if_neg, lk_of_mem hn.2 h]
      rintro rfl
      exact hn.1 (List.mem_map.2 ⟨(_, v), h, rfl⟩)
theorem HLe.of_sub {h : Heap} (hk : (hids h).Nodup) : ∀ {r : Heap}, (∀ i o, (i, o) ∈ r → (i, o) ∈ h) → HLe h r
  | [], _ => trivial
  | (i, o) :: r, hs => ⟨lk_of_mem hk (hs i o List.mem_cons_self), HLe.of_sub hk (fun i o hm => hs i o (List.mem_cons_of_mem _ hm))⟩
def outH (L : List Nat) : Heap → Heap
  | [] => []
  | (i, o) :: r => bif L.any (Nat.beq i) then outH L r else (i, o) :: outH L r
theorem mem_outH {L : List Nat} : ∀ {h : Heap} {i : Nat} {o : O}, (i, o) ∈ outH L h ↔ (i, o) ∈ h ∧ i ∉ L
  | [], i, o => by simp [outH]
  | (k, x) :: r, i, o => by
    simp only [outH]
    cases hb : L.any (Nat.beq k) with
    | true =>
      simp only [cond_true, mem_outH (h := r), List.mem_cons, Prod.mk.injEq]
      simp only [List.any_eq_true] at hb
      obtain ⟨j, hj, he⟩ := hb
      obtain rfl := Nat.eq_of_beq_eq_true he
      constructor
      · rintro ⟨h1, h2⟩; exact ⟨.inr h1, h2⟩
      · rintro ⟨⟨rfl, _⟩ | h1, h2⟩
        · exact absurd hj h2
        · exact ⟨h1, h2⟩
    | false =>
      simp only [cond_false, mem_outH (h := r), List.mem_cons, Prod.mk.injEq]
      have hk : k ∉ L := fun hm => by
        have : L.any (Nat.beq k) = true := List.any_eq_true.2 ⟨k, hm, by simp⟩
        rw [this] at hb; cases hb
      constructor
      · rintro (⟨rfl, rfl⟩ | ⟨h1, h2⟩)
        · exact ⟨.inl ⟨rfl, rfl⟩, hk⟩
        · exact ⟨.inr h1, h2⟩
      · rintro ⟨⟨rfl, rfl⟩ | h1, h2⟩
        · exact .inl ⟨rfl, rfl⟩
        · exact .inr ⟨h1, h2⟩
theorem outH_keys (L : List Nat) : ∀ h : Heap, (hids h).Nodup → (hids (outH L h)).Nodup := by
  intro h hn
  have : (hids (outH L h)).Sublist (hids h) := by
    induction h with
    | nil => exact .slnil
    | cons p r ih =>
      obtain ⟨i, o⟩ := p
      simp only [hids, List.map_cons, List.nodup_cons] at hn
      simp only [outH]
      cases L.any (Nat.beq i) with
      | true => exact (ih hn.2).cons _
      | false => exact (ih hn.2).cons_cons _
  exact hn.sublist this

section
variable {C : Cx} {N n0 : Nat} {ops : Array Oper} {l : List Oper} {s s' : St} {Q Q' : Exit → St → Prop} {o : Oper} {c c1 c2 : Code}
/-- What is true of all states that a state stands for may be used. -/
theorem JL.have_keys (k : (hids s.h).Nodup → JL C N n0 ops l s Q) : JL C N n0 ops l s Q := fun e γ S a w h1 h2 hR => k hR.heap.keys e γ S a w h1 h2 hR
theorem JC.have_keys (k : (hids s.h).Nodup → JC C N n0 c s Q) : JC C N n0 c s Q := fun e γ S a w h1 h2 hR => k hR.heap.keys e γ S a w h1 h2 hR

theorem JL.pure {f : Operand} {args : Array Operand} {tys : Array TypeId} {fid : FuncId} {ids : List Nat} {svs caps args0 : List SV} {h0 : Heap} {nx0 : Nat} {v v' : SV} (ρ : Nat → Nat)
    (hg : o.guard = none) (ho : o.op = .call { callee := .value f, args := args, argTypes := tys }) (hd : dstOK N o.dst = true) (hf : s.op f = some (.c (.one (.clo fid ids)))) (ha : argSV s args.toList = some svs) (hcap : capSV s ids = some caps)
    (hρ : Moves ρ nx0 s.nx) (hfit : Fit (svs ++ caps) (renL ρ args0)) (hh : HLe s.h (renH ρ h0)) (hk : (hids h0).Nodup) (hrow : rowIds h0 = []) (ht : PureT C fid args0 h0 nx0 v) (hv : v.ren ρ = v')
    (k : JL C N n0 ops l (s.putO o.dst v') Q) : JL C N n0 ops (o :: l) s Q := by
  refine JL.have_keys fun hkeys => ?_
  have hrow' : rowIds (renH ρ h0) = [] := by rw [renH_rows, hrow]; rfl
  have hkill : killS s (rowIds (renH ρ h0)) = s := by rw [hrow']; rfl
  have hk' : (hids (renH ρ h0)).Nodup := by
    rw [renH_keys]
    exact List.pairwise_map.2 (hk.imp fun hne he => hne (hρ.inj' he))
  refine JL.call (h := renH ρ h0) (fr := outH (hids (renH ρ h0)) s.h) hg ho hd hf ha hcap (fun id o hm => hh.mem hm) hk' (fun id o hm => ?_) (outH_keys _ _ hkeys) hfit (Triple.ren ρ hρ ht) ?_ ?_
  · rw [hkill]; exact mem_outH.1 hm
  · rintro u h' nx' ⟨r0, h1, n1, ⟨rfl, rfl, rfl⟩, h2, rfl, rfl⟩
    simp only [Res.ren, Res.ret.injEq] at h2
    subst h2
    rw [hkill, hv]
    refine JL.conv ?_ k
    have hnx : s.nx + (n1 - n1) = s.nx := by omega
    rw [hnx]
    have hle : HLe (renH ρ h1 ++ outH (hids (renH ρ h1)) s.h) s.h := by
      refine HLe.of_sub ?_ ?_
      · simp only [hids, List.map_append]
        refine List.nodup_append.2 ⟨hk', outH_keys _ _ hkeys, ?_⟩
        rintro a ha b hb rfl
        obtain ⟨o, hm⟩ := hids_mem hb
        exact (mem_outH.1 hm).2 ha
      · intro i x hm
        rw [List.mem_append]
        by_cases hi : i ∈ hids (renH ρ h1)
        · left
          obtain ⟨y, hy⟩ := hids_mem hi
          have h5 := lk_of_mem hkeys (hh.mem hy)
          have h6 := lk_of_mem hkeys hm
          rw [h5] at h6; cases h6
          exact hy
        · exact .inr (mem_outH.2 ⟨hm, hi⟩)
    have hgo : ∀ s2 : St, s2.h = renH ρ h1 ++ outH (hids (renH ρ h1)) s.h → s2.nx = s.nx → Le n0 s2 { s2 with h := s.h, nx := s.nx } := fun s2 h7 h8 => Le.heap (by rw [h7]; exact hle) hkeys (by rw [h8]; exact Nat.le_refl _)
    cases hdst : o.dst with
    | none => exact hgo { sl := s.sl, h := _, nx := _ } rfl rfl
    | some d => exact hgo (St.put { sl := s.sl, h := _, nx := _ } d v') rfl rfl
  · rintro u h' nx' ⟨r0, h1, n1, ⟨rfl, _⟩, h2, _⟩
    cases h2

theorem Moves.all (n : Nat) : Moves (fun i => n + i) 0 n := ⟨fun i j h => absurd h (Nat.not_lt_zero i), fun i h => absurd h (Nat.not_lt_zero i), fun i _ => rfl⟩
theorem Moves.id {n m : Nat} (h : n ≤ m) : Moves (fun i => if i < n then i else m + (i - n)) n m := ⟨fun i j h1 h2 he => by simp only [if_pos h1, if_pos h2] at he; exact he, fun i h1 => by simp only [if_pos h1]; omega, fun i h1 => by rw [if_neg (by omega)]⟩
/-- Plain arguments alone. -/
theorem JL.p0 {f : Operand} {args : Array Operand} {tys : Array TypeId} {fid : FuncId} {svs targs : List SV} {v : SV}
    (hg : o.guard = none) (ho : o.op = .call { callee := .value f, args := args, argTypes := tys }) (hd : dstOK N o.dst = true) (hf : s.op f = some (.c (.one (.clo fid [])))) (ha : argSV s args.toList = some svs) (hfit : Fit svs targs)
    (hc : ∀ ρ, renL ρ targs = targs) (ht : PureT C fid targs [] 0 v) (hv : ∀ ρ, v.ren ρ = v) (k : JL C N n0 ops l (s.putO o.dst v) Q) : JL C N n0 ops (o :: l) s Q :=
  JL.pure (fun i => s.nx + i) (caps := []) (args0 := targs) (h0 := []) (nx0 := 0) hg ho hd hf ha rfl (Moves.all _) (by rw [hc, List.append_nil]; exact hfit) trivial .nil rfl ht (hv _) k
/-- All that there is is handed over, under the same ids. -/
theorem JL.pw {f : Operand} {args : Array Operand} {tys : Array TypeId} {fid : FuncId} {ids : List Nat} {svs caps targs : List SV} {v : SV}
    (hg : o.guard = none) (ho : o.op = .call { callee := .value f, args := args, argTypes := tys }) (hd : dstOK N o.dst = true) (hf : s.op f = some (.c (.one (.clo fid ids)))) (ha : argSV s args.toList = some svs) (hcap : capSV s ids = some caps)
    (hfit : Fit (svs ++ caps) targs) (hrow : rowIds s.h = []) (ht : (hids s.h).Nodup → PureT C fid targs s.h s.nx v) (k : JL C N n0 ops l (s.putO o.dst v) Q) : JL C N n0 ops (o :: l) s Q := by
  refine JL.have_keys fun hkeys => ?_
  have hkill : killS s (rowIds s.h) = s := by rw [hrow]; rfl
  refine JL.call (h := s.h) (fr := []) hg ho hd hf ha hcap (fun _ _ h => h) hkeys (fun id o hm => by cases hm) .nil hfit (ht hkeys) ?_ ?_
  · rintro u h' nx' ⟨h1, rfl, rfl⟩
    cases h1
    rw [hkill]
    simpa using k
  · rintro u h' nx' ⟨h1, _⟩
    cases h1
/-- A list in hand is none too long. -/
theorem JC.have_big {sz n : Nat} {f : Nat → List T} (d : Nat) (hd : lk s.sl d = some (.c (.one (.data (.rows sz n f))))) (k : n ≤ big → JC C N n0 c s Q) : JC C N n0 c s Q := by
  intro e γ S a w h1 h2 hR
  refine k ?_ e γ S a w h1 h2 hR
  have h3 := hR.slots d _ hd
  generalize a.tmps.getD d undef = u at h3
  cases h3 with
  | data h => cases h; assumption
end
theorem not_t {b : Bool} (h : (!b) = true) : b = false := by cases b <;> first | rfl | cases h
theorem not_f {b : Bool} (h : (!b) = false) : b = true := by cases b <;> first | rfl | cases h
theorem SlLe.int {l r : List (Nat × SV)} {d : Nat} {k : IntKind} {m n : Int} (h : lk l d = some (.c (.one (.data (.lit (.int k m)))))) (e : m = n) (hr : SlLe l r) : SlLe l ((d, .c (.one (.data (.lit (.int k n))))) :: r) := e ▸ SlLe.same h hr
theorem wrap64 {n : Int} (h1 : -9223372036854775808 ≤ n) (h2 : n ≤ 9223372036854775807) : IntKind.i64.wrap n = n := by
  rw [IntKind.wrap_i64]; omega
theorem wrap_succ2 {i : Nat} (h : i + 1 ≤ big) : IntKind.i64.wrap ((i : Int) + 1) = ((i + 1 : Nat) : Int) := by
  unfold big at h
  rw [wrap64 (by omega) (by omega)]; omega
theorem wrap_succ {i n : Nat} (h2 : n ≤ big) (h1 : i < n) : IntKind.i64.wrap ((i : Int) + 1) = ((i + 1 : Nat) : Int) := by
  unfold big at h2
  rw [wrap64 (by omega) (by omega)]; omega
end Go.Fw
/- The framework, part 19: regions whose order is drawn: operations that only yield values, in any order that their needs let in, then the rest in order. -/
set_option linter.unusedVariables false
set_option linter.unusedSimpArgs false
namespace Go.Fw
open Go

def hard (e : Edge) : Bool := match e.ground with
  | .textOnly _ => false
  | .gcOnly _ => false
  | _ => true
theorem hard_binds {e : Edge} (h : hard e = true) (m : Region.Mode) : Region.binds m e = true := by
  unfold hard at h; unfold Region.binds
  split at h <;> first | cases h | skip
  split <;> simp_all
def hdepsE : List Edge → List Nat
  | [] => []
  | e :: r => bif hard e then e.on :: hdepsE r else hdepsE r
def hdeps (o : Oper) : List Nat := hdepsE o.after.toList
theorem mem_hdepsE : ∀ {l : List Edge} {j : Nat}, j ∈ hdepsE l → ∃ e, e ∈ l ∧ hard e = true ∧ e.on = j
  | [], _, h => by simp [hdepsE] at h
  | e :: r, j, h => by
    simp only [hdepsE] at h
    cases hb : hard e with
    | true =>
      rw [hb] at h
      rcases List.mem_cons.1 h with rfl | h
      · exact ⟨e, List.mem_cons_self, hb, rfl⟩
      · obtain ⟨e', h1, h2⟩ := mem_hdepsE h; exact ⟨e', List.mem_cons_of_mem _ h1, h2⟩
    | false =>
      rw [hb] at h
      obtain ⟨e', h1, h2⟩ := mem_hdepsE h; exact ⟨e', List.mem_cons_of_mem _ h1, h2⟩
def opAt (ops : Array Oper) (i : Nat) : Option Oper := ops.toList[i]?
def dstAt (l : List Oper) (i : Nat) : Option Nat := (l[i]?).bind (·.dst)
/-- The state behind some operations, the last one ahead. -/
def at_ (l : List Oper) (val : Nat → SV) (s : St) : List Nat → St
  | [] => s
  | i :: σ => (at_ l val s σ).putO (dstAt l i) (val i)
def putAll (s : St) : List Oper → List SV → St
  | o :: r, v :: vs => putAll (s.putO o.dst v) r vs
  | _, _ => s
inductive Ok (dep : Nat → List Nat) : List Nat → Prop
  | nil : Ok dep []
  | cons {i : Nat} {σ : List Nat} (h : Ok dep σ) (hn : i ∉ σ) (hd : ∀ j, j ∈ dep i → j ∈ σ) : Ok dep (i :: σ)
theorem Ok.closed {dep : Nat → List Nat} {σ : List Nat} (h : Ok dep σ) : ∀ i, i ∈ σ → ∀ j, j ∈ dep i → j ∈ σ := by
  induction h with
  | nil => intro i hi; cases hi
  | cons h hn hd ih =>
    intro i hi j hj
    rcases List.mem_cons.1 hi with rfl | hi
    · exact List.mem_cons_of_mem _ (hd j hj)
    · exact List.mem_cons_of_mem _ (ih i hi j hj)
theorem Ok.nodup {dep : Nat → List Nat} {σ : List Nat} (h : Ok dep σ) : σ.Nodup := by
  induction h with
  | nil => exact .nil
  | cons h hn hd ih => exact List.nodup_cons.2 ⟨hn, ih⟩

theorem putO_sl (s : St) (d : Option Nat) (v : SV) (t : Nat) : lk (s.putO d v).sl t = if d = some t then some v else lk s.sl t := by
  cases d with
  | none => simp [St.putO]
  | some d => simp only [St.putO, St.put, lk_cons, Option.some.injEq]
theorem putO_h (s : St) (d : Option Nat) (v : SV) : (s.putO d v).h = s.h := by cases d <;> rfl
theorem putO_nx (s : St) (d : Option Nat) (v : SV) : (s.putO d v).nx = s.nx := by cases d <;> rfl
theorem at_h (l : List Oper) (val : Nat → SV) (s : St) : ∀ σ, (at_ l val s σ).h = s.h ∧ (at_ l val s σ).nx = s.nx
  | [] => ⟨rfl, rfl⟩
  | i :: σ => by simp only [at_, putO_h, putO_nx]; exact at_h l val s σ
theorem at_base {l : List Oper} {val : Nat → SV} {s : St} {t : Nat} : ∀ {σ : List Nat}, (∀ i, i ∈ σ → dstAt l i ≠ some t) → lk (at_ l val s σ).sl t = lk s.sl t
  | [], _ => rfl
  | i :: σ, h => by
    simp only [at_, putO_sl]
    rw [if_neg (h i List.mem_cons_self)]
    exact at_base (fun j hj => h j (List.mem_cons_of_mem _ hj))
theorem at_dst {l : List Oper} {val : Nat → SV} {s : St} {t i : Nat} : ∀ {σ : List Nat}, (∀ j, j ∈ σ → dstAt l j = some t → j = i) → i ∈ σ → dstAt l i = some t → lk (at_ l val s σ).sl t = some (val i)
  | [], _, h, _ => by cases h
  | j :: σ, hd, h, ht => by
    simp only [at_, putO_sl]
    by_cases hj : dstAt l j = some t
    · rw [if_pos hj, hd j List.mem_cons_self hj]
    · rw [if_neg hj]
      rcases List.mem_cons.1 h with rfl | h
      · exact absurd ht hj
      · exact at_dst (fun k hk => hd k (List.mem_cons_of_mem _ hk)) h ht

/-! ### What an operation needs -/
def needO : List Operand → List Nat
  | [] => []
  | .tmp t :: r => t :: needO r
  | _ :: r => needO r
def needs (o : Oper) : List Nat := needO o.op.operands.toList
def findDep (l : List Oper) (acc : List SV) (t : Nat) : List Nat → Option SV
  | [] => none
  | j :: r => match dstAt l j with
    | some d => bif Nat.beq d t then acc[j]? else findDep l acc t r
    | none => findDep l acc t r
def busy (i t : Nat) : List Oper → Bool
  | [] => false
  | o :: r => match o.dst with
    | some d => (Nat.beq d t && !(hdeps o).any (Nat.beq i)) || busy i t r
    | none => busy i t r
def slotFor (l : List Oper) (m : Nat) (s : St) (acc : List SV) (i : Nat) (o : Oper) (t : Nat) : Option SV :=
  match findDep l acc t (hdeps o) with
  | some v => some v
  | none => bif busy i t (l.take m) then none else lk s.sl t
def slotsFor (l : List Oper) (m : Nat) (s : St) (acc : List SV) (i : Nat) (o : Oper) : List Nat → List (Nat × SV)
  | [] => []
  | t :: r => match slotFor l m s acc i o t with
    | some v => (t, v) :: slotsFor l m s acc i o r
    | none => slotsFor l m s acc i o r
def stFor (l : List Oper) (m : Nat) (s : St) (acc : List SV) (i : Nat) (o : Oper) : St := ⟨slotsFor l m s acc i o (needs o), s.h, s.nx⟩
structure Sub (M s : St) : Prop where
  sl : ∀ d v, lk M.sl d = some v → lk s.sl d = some v
  h : M.h = s.h
  nx : M.nx = s.nx
theorem Rep.sub {M s : St} {e : Env} {γ : Nat → Option Value} {S : Nat → Prop} {a : Act} {w : World} (h : Sub M s) (hR : Rep e γ S s a w) : Rep e γ S M a w :=
  { hR with slots := fun d v hd => hR.slots d v (h.sl d v hd), heap := by rw [h.h]; exact hR.heap, fresh := by rw [h.h, h.nx]; exact hR.fresh, own := by rw [h.h]; exact hR.own, ids := by rw [h.h]; exact hR.ids, nx := by rw [h.nx]; exact hR.nx, rows := by rw [h.h]; exact hR.rows, new := by rw [h.nx]; exact hR.new }
theorem Sub.op {M s : St} (h : Sub M s) {x : Operand} {v : SV} (hx : M.op x = some v) : s.op x = some v := by
  cases x with
  | tmp t => exact h.sl _ _ hx
  | _ => exact hx
theorem Sub.argSV {M s : St} (h : Sub M s) : ∀ {xs : List Operand} {vs : List SV}, argSV M xs = some vs → argSV s xs = some vs
  | [], vs, hx => hx
  | x :: r, vs, hx => by
    unfold Fw.argSV at hx ⊢
    split at hx
    · rename_i v l h1 h2
      rw [h.op h1, Sub.argSV h h2]; exact hx
    · cases hx
theorem Sub.capSV {M s : St} (h : Sub M s) : ∀ {xs : List Nat} {vs : List SV}, capSV M xs = some vs → capSV s xs = some vs
  | [], vs, hx => hx
  | x :: r, vs, hx => by
    unfold Fw.capSV at hx ⊢
    split at hx
    · rename_i t cs l h1 h2
      rw [← h.h, h1, Sub.capSV h h2]; exact hx
    · cases hx

/-- A call that yields a value, wherever what it needs stands as it does here. -/
def CallOK (C : Cx) (N n0 : Nat) (ops : Array Oper) (o : Oper) (M : St) (v : SV) : Prop :=
  ∀ e γ S s a w, e.N = N → e.n0 = n0 → Sub M s → Rep e γ S s a w → ∀ (K : Act → World → Prop) (Q : Exit → Act → World → Prop), (∀ γ' S' a' w', Rep e γ' S' (s.putO o.dst v) a' w' → K a' w') → o.wp C.P a w K Q

section
variable {C : Cx} {N n0 : Nat} {ops : Array Oper} {l : List Oper} {s s' M : St} {Q Q' : Exit → St → Prop} {o : Oper}
theorem wp_monoQ {P : Program} {a : Act} {w : World} {K K' : Act → World → Prop} {Q Q' : Exit → Act → World → Prop} (h : ∀ a w, K a w → K' a w) (hQ : ∀ x a w, x ≠ .normal → Q x a w → Q' x a w) (hh : o.wp P a w K Q) : o.wp P a w K' Q' := by
  have hl : LetsOut Q → LetsOut Q' := fun ⟨a, w, h⟩ => ⟨a, w, hQ _ _ _ (by intro h; cases h) h⟩
  have hp : ∀ c a w, Q (.panic c) a w → Q' (.panic c) a w := fun c a w => hQ _ a w (by intro h; cases h)
  unfold Oper.wp at *
  generalize (execOp a.eval o).run P w = r at *
  cases r with
  | ok n w' =>
    cases n <;> simp only [Oper.upon] at hh ⊢ <;>
      first
        | exact h _ _ hh
        | exact Calls.mono hh (fun e w'' he => by cases e <;> first | exact h _ _ he | exact hp _ _ _ he | exact hl he)
        | exact Rows.mono hh (fun _ _ he => h _ _ he)
        | exact hh
  | halt x w' => cases x <;> simp only [Oper.upon] at hh ⊢ <;> first | exact hh | exact hp _ _ _ hh
theorem CallOK.of_JL {v : SV} (hg : o.guard = none) (h : ∀ s, Sub M s → JL C N n0 ops [o] s (fun x s' => x = .normal ∧ s' = s.putO o.dst v)) : CallOK C N n0 ops o M v := by
  intro e γ S s a w h1 h2 hs hR K Q hK
  have hw := h s hs e γ S a w h1 h2 hR
  unfold wpList at hw
  rw [if_pos (by simp [Region.wanted, hg])] at hw
  rcases hw with hw | ⟨_, a', w', s', γ', S', ⟨hx, _⟩, _⟩
  · refine wp_monoQ ?_ ?_ hw
    · rintro a' w' ⟨s', γ', S', ⟨_, rfl⟩, hr⟩; exact hK _ _ _ _ hr
    · rintro x a' w' hne ⟨s', γ', S', ⟨hx, _⟩, _⟩; exact absurd hx hne
  · cases hx
/-- Calls that leave all as it is. -/
theorem CallOK.pure {f : Operand} {args : Array Operand} {tys : Array TypeId} {fid : FuncId} {ids : List Nat} {svs caps args0 : List SV} {h0 : Heap} {nx0 : Nat} {v v' : SV} (ρ : Nat → Nat)
    (hg : o.guard = none) (ho : o.op = .call { callee := .value f, args := args, argTypes := tys }) (hd : dstOK N o.dst = true) (hf : M.op f = some (.c (.one (.clo fid ids)))) (ha : argSV M args.toList = some svs) (hcap : capSV M ids = some caps)
    (hρ : Moves ρ nx0 M.nx) (hfit : Fit (svs ++ caps) (renL ρ args0)) (hh : HLe M.h (renH ρ h0)) (hk : (hids h0).Nodup) (hrow : rowIds h0 = []) (ht : PureT C fid args0 h0 nx0 v) (hv : v.ren ρ = v') : CallOK C N n0 ops o M v' :=
  CallOK.of_JL hg fun s hs => JL.pure ρ hg ho hd (hs.op hf) (hs.argSV ha) (hs.capSV hcap) (hs.nx ▸ hρ) hfit (hs.h ▸ hh) hk hrow ht hv (JL.nil ⟨rfl, rfl⟩)
theorem CallOK.p0 {f : Operand} {args : Array Operand} {tys : Array TypeId} {fid : FuncId} {svs targs : List SV} {v : SV}
    (hg : o.guard = none) (ho : o.op = .call { callee := .value f, args := args, argTypes := tys }) (hd : dstOK N o.dst = true) (hf : M.op f = some (.c (.one (.clo fid [])))) (ha : argSV M args.toList = some svs) (hfit : Fit svs targs)
    (hc : ∀ ρ, renL ρ targs = targs) (ht : PureT C fid targs [] 0 v) (hv : ∀ ρ, v.ren ρ = v) : CallOK C N n0 ops o M v :=
  CallOK.of_JL hg fun s hs => JL.p0 hg ho hd (hs.op hf) (hs.argSV ha) hfit hc ht hv (JL.nil ⟨rfl, rfl⟩)
theorem CallOK.pw {f : Operand} {args : Array Operand} {tys : Array TypeId} {fid : FuncId} {ids : List Nat} {svs caps targs : List SV} {v : SV}
    (hg : o.guard = none) (ho : o.op = .call { callee := .value f, args := args, argTypes := tys }) (hd : dstOK N o.dst = true) (hf : M.op f = some (.c (.one (.clo fid ids)))) (ha : argSV M args.toList = some svs) (hcap : capSV M ids = some caps)
    (hfit : Fit (svs ++ caps) targs) (hrow : rowIds M.h = []) (ht : (hids M.h).Nodup → PureT C fid targs M.h M.nx v) : CallOK C N n0 ops o M v :=
  CallOK.of_JL hg fun s hs => JL.pw hg ho hd (hs.op hf) (hs.argSV ha) (hs.capSV hcap) hfit (hs.h ▸ hrow) (hs.h ▸ hs.nx ▸ ht) (JL.nil ⟨rfl, rfl⟩)

/-! ### The evaluator -/
def vopB (T : Tab) (q : EqT) (N : Nat) (M : St) (o : Oper) : Option (Prop × SV) :=
  bif dstOK N o.dst then match vopA T q M o with
    | some r => some r
    | none => match o.op with
      | .build t parts => match builtD T M t parts.toList with
        | some ds => some (True, .c (.agg ds))
        | none => none
      | _ => none
  else none
theorem vopB_run {e : Env} {γ : Nat → Option Value} {S : Nat → Prop} {a : Act} {w : World} (hM : Sub M s) (hR : Rep e γ S s a w) {p : Prop} {v : SV} (h : vopB C.T C.q e.N M o = some (p, v)) (hp : p) :
    ∃ u, runs C.P a w o (some u) w ∧ Rep e γ S (s.putO o.dst v) (a.put o.dst u) w := by
  unfold vopB at h
  cases hd : dstOK e.N o.dst with
  | false => rw [hd] at h; cases h
  | true =>
    rw [hd] at h
    simp only [cond_true] at h
    split at h
    · rename_i r hv
      simp only [Option.some.injEq] at h; subst h
      obtain ⟨u, h1, h2⟩ := vopA_run C.hT C.hq (hR.sub hM) hv hp
      exact ⟨u, h1, hR.putO h2 hd⟩
    · split at h
      · rename_i t parts ho
        split at h
        · rename_i ds hds
          simp only [Option.some.injEq, Prod.mk.injEq] at h; obtain ⟨rfl, rfl⟩ := h
          obtain ⟨out, h1, h2⟩ := build_run C.hT (hR.sub hM) hds
          refine ⟨.agg out.toArray, ?_, hR.putO (v := .c (.agg ds)) ⟨out, rfl, h2⟩ hd⟩
          simp only [runs, execOp, ho, Sem.run_bind, h1, Result.andThen_ok, Sem.run_pure]
        · cases h
      · cases h

def fLs : List SV → (List SV → Prop) → Prop
  | [], K => K []
  | x :: r, K => fLs r fun r' => K (x :: r')
theorem fLs_eq : ∀ (l : List SV) (K : List SV → Prop), fLs l K = K l
  | [], _ => rfl
  | x :: r, K => by simp only [fLs, fLs_eq r]
/-- One value more. -/
def fAcc (acc : List SV) (v : SV) (K : List SV → Prop) : Prop := fSV v fun v' => fLs (acc ++ [v']) K
theorem fAcc_eq (acc : List SV) (v : SV) (K : List SV → Prop) : fAcc acc v K = K (acc ++ [v]) := by simp only [fAcc, fSV_eq, fLs_eq]
theorem fAcc_in {acc : List SV} {v : SV} {K : List SV → Prop} (h : K (acc ++ [v])) : fAcc acc v K := by rw [fAcc_eq]; exact h
def evD (C : Cx) (N n0 : Nat) (ops : Array Oper) (m : Nat) (s : St) (F : List SV → Prop) : List Oper → Nat → List SV → Prop
  | [], _, acc => F acc
  | o :: r, i, acc => match o.guard with
    | none => match vopB C.T C.q N (stFor ops.toList m s acc i o) o with
      | some (p, v) => p ∧ fAcc acc v fun acc' => evD C N n0 ops m s F r (i + 1) acc'
      | none => ∃ v, CallOK C N n0 ops o (stFor ops.toList m s acc i o) v ∧ fAcc acc v fun acc' => evD C N n0 ops m s F r (i + 1) acc'
    | some (j, want) => match acc[j]? with
      | some (.c (.one (.data (.lit (.bool b))))) => match dstAt ops.toList j with
        | some d => bif (hdeps o).any (Nat.beq j) && Nat.blt d N && dstOK N o.dst then two b fun b' => two (bif want then b' else !b') fun y => match y with
            | true => match vopB C.T C.q N (stFor ops.toList m s (acc.set j (litS (.bool b'))) i (unguard o)) (unguard o) with
              | some (p, v) => p ∧ fAcc (acc.set j (litS (.bool b'))) v fun acc' => evD C N n0 ops m s F r (i + 1) acc'
              | none => ∃ v, CallOK C N n0 ops (unguard o) (stFor ops.toList m s (acc.set j (litS (.bool b'))) i (unguard o)) v ∧ fAcc (acc.set j (litS (.bool b'))) v fun acc' => evD C N n0 ops m s F r (i + 1) acc'
            | false => fAcc (acc.set j (litS (.bool b'))) (.tup []) fun acc' => evD C N n0 ops m s F r (i + 1) acc'
          else False
        | none => False
      | some (.tup []) => match dstAt ops.toList j with
        | some d => bif (hdeps o).any (Nat.beq j) && Nat.blt d N && dstOK N o.dst then fAcc acc (.tup []) fun acc' => evD C N n0 ops m s F r (i + 1) acc' else False
        | none => False
      | _ => False

/-- What is said of one operation, whatever went ahead of it. -/
def StepOK (C : Cx) (N n0 : Nat) (ops : Array Oper) (m : Nat) (s : St) (val : Nat → SV) (i : Nat) : Prop :=
  ∀ (e : Env) γ S σ a w, e.N = N → e.n0 = n0 → Ok (fun k => ((ops.toList[k]?).map hdeps).getD []) σ → (∀ j, j ∈ σ → j < m) → i ∉ σ → (∀ o j, ops.toList[i]? = some o → j ∈ hdeps o → j ∈ σ) → Rep e γ S (at_ ops.toList val s σ) a w →
    ∀ (K : Act → World → Prop) (Q : Exit → Act → World → Prop), (∀ γ' S' a' w', Rep e γ' S' (at_ ops.toList val s (i :: σ)) a' w' → K a' w') → wpOp C.P ops Q i K a w

def dstsOK : List (Option Nat) → Bool
  | [] => true
  | some d :: r => (!r.any fun x => match x with | some d' => Nat.beq d' d | none => false) && dstsOK r
  | none :: r => dstsOK r
theorem dstsOK_spec : ∀ {l : List (Option Nat)}, dstsOK l = true → ∀ (i j d : Nat), l[i]? = some (some d) → l[j]? = some (some d) → i = j
  | [], _, i, j, d, h, _ => by simp at h
  | none :: r, h, i, j, d, h1, h2 => by
    cases i with
    | zero => simp at h1
    | succ i => cases j with
      | zero => simp at h2
      | succ j => rw [dstsOK_spec (l := r) h i j d (by simpa using h1) (by simpa using h2)]
  | some d0 :: r, h, i, j, d, h1, h2 => by
    simp only [dstsOK, Bool.and_eq_true, Bool.not_eq_true', List.any_eq_false] at h
    have key : ∀ k : Nat, r[k]? = some (some d0) → False := by
      intro k hk
      have := h.1 _ (List.mem_of_getElem? hk)
      simp at this
    cases i with
    | zero =>
      simp at h1; subst h1
      cases j with
      | zero => rfl
      | succ j => exact (key j (by simpa using h2)).elim
    | succ i => cases j with
      | zero => simp at h2; subst h2; exact (key i (by simpa using h1)).elim
      | succ j => rw [dstsOK_spec (l := r) h.2 i j d (by simpa using h1) (by simpa using h2)]
def reach (l : List Oper) : Nat → Nat → Nat → Bool
  | 0, _, _ => false
  | f + 1, i, j => match l[i]? with
    | some o => (hdeps o).any (Nat.beq j) || (hdeps o).any fun k => reach l f k j
    | none => false
def below : Nat → (Nat → Bool) → Bool
  | 0, _ => true
  | n + 1, p => p n && below n p
theorem below_spec {p : Nat → Bool} : ∀ {n : Nat}, below n p = true → ∀ i, i < n → p i = true
  | 0, _, i, h => absurd h (Nat.not_lt_zero i)
  | n + 1, h, i, hi => by
    simp only [below, Bool.and_eq_true] at h
    rcases Nat.lt_succ_iff_lt_or_eq.1 hi with h1 | rfl
    · exact below_spec h.2 i h1
    · exact h.1
def edgesOK (i : Nat) (l : List Edge) : Bool := l.all fun e => Nat.blt e.on i
/-- Every operation waits for earlier ones alone; from m on each waits for all that are ahead of it; the first m write other places each. -/
def chkD (l : List Oper) (m : Nat) : Bool :=
  dstsOK ((l.take m).map (·.dst)) && Nat.ble m l.length && below l.length fun i => match l[i]? with
    | some o => edgesOK i o.after.toList && (Nat.blt i m || below i fun j => reach l l.length i j)
    | none => false
end
end Go.Fw
/- The framework, part 20: a drawn region: the evaluator is right. -/
set_option linter.unusedVariables false
set_option linter.unusedSimpArgs false
namespace Go.Fw
open Go

section
variable {C : Cx} {N n0 : Nat} {ops : Array Oper} {l : List Oper} {s M : St} {Q : Exit → St → Prop} {m : Nat}
structure ChkD (l : List Oper) (m : Nat) : Prop where
  le : m ≤ l.length
  dst : ∀ i j d, i < m → j < m → dstAt l i = some d → dstAt l j = some d → i = j
  edge : ∀ (i : Nat) (o : Oper) (e : Edge), l[i]? = some o → e ∈ o.after → e.on < i
  all : ∀ i j, m ≤ i → i < l.length → j < i → reach l l.length i j = true
theorem chkD_spec (h : chkD l m = true) : ChkD l m := by
  simp only [chkD, Bool.and_eq_true] at h
  obtain ⟨⟨h1, h2⟩, h3⟩ := h
  have hb : ∀ i o, l[i]? = some o → (edgesOK i o.after.toList && (Nat.blt i m || below i fun j => reach l l.length i j)) = true := by
    intro i o ho
    have := below_spec h3 i (List.getElem?_eq_some_iff.1 ho).1
    rw [ho] at this; exact this
  refine ⟨Nat.le_of_ble_eq_true h2, ?_, ?_, ?_⟩
  · intro i j d hi hj h4 h5
    refine dstsOK_spec h1 i j d ?_ ?_
    · unfold dstAt at h4
      cases ho : l[i]? with
      | none => rw [ho] at h4; cases h4
      | some o => rw [ho] at h4; rw [List.getElem?_map, List.getElem?_take_of_lt hi, ho]; simp only [Option.map_some, Option.some.injEq]; simpa using h4
    · unfold dstAt at h5
      cases ho : l[j]? with
      | none => rw [ho] at h5; cases h5
      | some o => rw [ho] at h5; rw [List.getElem?_map, List.getElem?_take_of_lt hj, ho]; simp only [Option.map_some, Option.some.injEq]; simpa using h5
  · intro i o e ho he
    have := hb i o ho
    simp only [Bool.and_eq_true, edgesOK, List.all_eq_true] at this
    exact Nat.le_of_ble_eq_true (this.1 e (by simpa using he))
  · intro i j hm hi hj
    obtain ⟨o, ho⟩ : ∃ o, l[i]? = some o := ⟨_, List.getElem?_eq_getElem hi⟩
    have := hb i o ho
    simp only [Bool.and_eq_true, Bool.or_eq_true] at this
    rcases this.2 with h4 | h4
    · have := Nat.le_of_ble_eq_true h4; omega
    · exact below_spec h4 j hj
def depF (l : List Oper) (k : Nat) : List Nat := ((l[k]?).map hdeps).getD []
theorem depF_of {o : Oper} {k : Nat} (h : l[k]? = some o) : depF l k = hdeps o := by simp [depF, h]
theorem ChkD.hlt (h : ChkD l m) {i j : Nat} {o : Oper} (ho : l[i]? = some o) (hj : j ∈ hdeps o) : j < i := by
  obtain ⟨e, h1, _, rfl⟩ := mem_hdepsE hj
  exact h.edge i o e ho (by simpa using h1)
theorem ChkD.reach_lt (h : ChkD l m) : ∀ {f i j : Nat}, reach l f i j = true → j < i
  | 0, i, j, hr => by cases hr
  | f + 1, i, j, hr => by
    simp only [reach] at hr
    split at hr
    · rename_i o ho
      simp only [Bool.or_eq_true, List.any_eq_true] at hr
      rcases hr with ⟨k, hk, he⟩ | ⟨k, hk, hr⟩
      · obtain rfl := Nat.eq_of_beq_eq_true he; exact h.hlt ho hk
      · have := ChkD.reach_lt h hr; have := h.hlt ho hk; omega
    · cases hr
theorem reach_in {σ : List Nat} (hσ : Ok (depF l) σ) : ∀ {f i j : Nat} {o : Oper}, l[i]? = some o → (∀ k, k ∈ hdeps o → k ∈ σ) → reach l f i j = true → j ∈ σ
  | 0, i, j, o, _, _, hr => by cases hr
  | f + 1, i, j, o, ho, hd, hr => by
    simp only [reach, ho, Bool.or_eq_true, List.any_eq_true] at hr
    rcases hr with ⟨k, hk, he⟩ | ⟨k, hk, hr⟩
    · obtain rfl := Nat.eq_of_beq_eq_true he; exact hd _ hk
    · cases ho2 : l[k]? with
      | none => cases f with
        | zero => cases hr
        | succ f => simp only [reach, ho2] at hr; cases hr
      | some o2 => exact reach_in hσ ho2 (fun x hx => hσ.closed k (hd k hk) x (by rw [depF_of ho2]; exact hx)) hr

theorem findDep_spec {acc : List SV} {t : Nat} {v : SV} : ∀ {r : List Nat}, findDep l acc t r = some v → ∃ j, j ∈ r ∧ dstAt l j = some t ∧ acc[j]? = some v
  | [], h => by cases h
  | j :: r, h => by
    unfold findDep at h
    split at h
    · rename_i d hd
      cases hb : Nat.beq d t with
      | true =>
        rw [hb] at h
        obtain rfl := Nat.eq_of_beq_eq_true hb
        exact ⟨j, List.mem_cons_self, hd, h⟩
      | false =>
        rw [hb] at h
        obtain ⟨j', h1, h2⟩ := findDep_spec (r := r) h; exact ⟨j', List.mem_cons_of_mem _ h1, h2⟩
    · obtain ⟨j', h1, h2⟩ := findDep_spec (r := r) h; exact ⟨j', List.mem_cons_of_mem _ h1, h2⟩
theorem busy_spec {i t : Nat} : ∀ {l : List Oper}, busy i t l = false → ∀ o, o ∈ l → o.dst = some t → i ∈ hdeps o
  | [], _, o, h, _ => by cases h
  | x :: r, hb, o, h, hd => by
    unfold busy at hb
    rcases List.mem_cons.1 h with rfl | h
    · rw [hd] at hb
      simp only [Bool.or_eq_false_iff] at hb
      have h1 := hb.1
      rw [show Nat.beq t t = true from by simp] at h1
      simp only [Bool.true_and, Bool.not_eq_false', List.any_eq_true] at h1
      obtain ⟨k, hk, he⟩ := h1
      rw [Nat.eq_of_beq_eq_true he]; exact hk
    · refine busy_spec (l := r) ?_ o h hd
      split at hb
      · simp only [Bool.or_eq_false_iff] at hb; exact hb.2
      · exact hb
theorem slotsFor_spec {acc : List SV} {i : Nat} {o : Oper} {t : Nat} {v : SV} : ∀ {L : List Nat}, lk (slotsFor l m s acc i o L) t = some v → slotFor l m s acc i o t = some v
  | [], h => by cases h
  | x :: L, h => by
    unfold slotsFor at h
    split at h
    · rename_i u hu
      rw [lk_cons] at h
      split at h
      · rename_i he; subst he; simp only [Option.some.injEq] at h; subst h; exact hu
      · exact slotsFor_spec h
    · exact slotsFor_spec h
theorem at_have (hc : ChkD l m) {val : Nat → SV} {σ : List Nat} (hm : ∀ j, j ∈ σ → j < m) {j t : Nat} (hj : j ∈ σ) (hd : dstAt l j = some t) : lk (at_ l val s σ).sl t = some (val j) :=
  at_dst (fun k hk hkd => hc.dst k j t (hm k hk) (hm j hj) hkd hd) hj hd
theorem stFor_sub (hc : ChkD l m) {acc : List SV} {val : Nat → SV} {i : Nat} {o : Oper} {σ : List Nat} (hσ : Ok (depF l) σ) (hm : ∀ j, j ∈ σ → j < m) (hi : i ∉ σ) (hd : ∀ j, j ∈ hdeps o → j ∈ σ)
    (hv : ∀ j v, j ∈ hdeps o → acc[j]? = some v → val j = v) : Sub (stFor l m s acc i o) (at_ l val s σ) := by
  refine ⟨fun t v h => ?_, (at_h l val s σ).1.symm, (at_h l val s σ).2.symm⟩
  have h := slotsFor_spec h
  unfold slotFor at h
  split at h
  · rename_i v' hf
    simp only [Option.some.injEq] at h; subst h
    obtain ⟨j, h1, h2, h3⟩ := findDep_spec hf
    rw [at_have hc hm (hd j h1) h2, hv j _ h1 h3]
  · cases hb : busy i t (l.take m) with
    | true => rw [hb] at h; cases h
    | false =>
      rw [hb] at h
      rw [at_base (fun k hk hkd => ?_)]; exact h
      unfold dstAt at hkd
      cases hok : l[k]? with
      | none => rw [hok] at hkd; cases hkd
      | some ok =>
        rw [hok] at hkd
        have hmem : ok ∈ l.take m := List.mem_of_getElem? (by rw [List.getElem?_take_of_lt (hm k hk)]; exact hok)
        exact hi (hσ.closed k hk i (by rw [depF_of hok]; exact busy_spec hb ok hmem (by simpa using hkd)))

theorem set_self {α : Type} : ∀ {l : List α} {i : Nat} {x : α}, l[i]? = some x → l.set i x = l
  | [], i, x, h => by simp at h
  | _ :: _, 0, x, h => by simp at h; simp [h]
  | _ :: r, i + 1, x, h => by simp at h; simp [set_self h]

theorem StepOK.val (hc : ChkD ops.toList m) {acc : List SV} {val : Nat → SV} {i : Nat} {o : Oper} (ho : ops.toList[i]? = some o) (hv : ∀ j v, j < i → acc[j]? = some v → val j = v) {o' : Oper} (ho' : o' = o ∨ o' = unguard o)
    (hg : ∀ (e : Env) γ S σ a w, e.N = N → (∀ j, j ∈ σ → j < m) → (∀ j, j ∈ hdeps o → j ∈ σ) → Rep e γ S (at_ ops.toList val s σ) a w → Region.wanted o (Go.yielded ops a.tmps) = true)
    (h : (∃ p v, vopB C.T C.q N (stFor ops.toList m s acc i o') o' = some (p, v) ∧ p ∧ val i = v) ∨ ∃ v, CallOK C N n0 ops o' (stFor ops.toList m s acc i o') v ∧ val i = v) : StepOK C N n0 ops m s val i := by
  intro e γ S σ a w hN h0 hσ hm hi hd hR K Q' hK
  have hd' := fun j hj => hd o j ho hj
  have hop : ops[i]? = some o := by simpa using ho
  have hdo : hdeps o' = hdeps o := by rcases ho' with rfl | rfl <;> rfl
  have hdst : o'.dst = o.dst := by rcases ho' with rfl | rfl <;> rfl
  have hsub : Sub (stFor ops.toList m s acc i o') (at_ ops.toList val s σ) :=
    stFor_sub (s := s) (o := o') hc hσ hm hi (fun j hj => hd' j (hdo ▸ hj)) (fun j v hj => hv j v (hc.hlt ho (hdo ▸ hj)))
  have hat : dstAt ops.toList i = o.dst := by simp [dstAt, ho]
  unfold wpOp
  rw [hop]
  simp only
  rw [if_pos (hg e γ S σ a w hN hm hd' hR)]
  left
  rcases h with ⟨p, v, h1, hp, h2⟩ | ⟨v, h1, h2⟩
  · subst hN
    obtain ⟨u, h3, h4⟩ := vopB_run hsub hR h1 hp
    have h5 : K (a.put o'.dst u) w := hK γ S _ w (by simp only [at_, hat, h2]; rw [← hdst]; exact h4)
    have h6 : o'.wp C.P a w K Q' := upon_runs h3 h5
    rcases ho' with rfl | rfl <;> exact h6
  · have h6 := h1 e γ S _ a w hN h0 hsub hR K Q' (fun γ' S' a' w' hr => hK γ' S' a' w' (by simp only [at_, hat, h2]; rw [← hdst]; exact hr))
    rcases ho' with rfl | rfl <;> exact h6

theorem StepOK.skip (hc : ChkD ops.toList m) {val : Nat → SV} {i : Nat} {o : Oper} (ho : ops.toList[i]? = some o) (hd : dstOK N o.dst = true) (hv : val i = .tup [])
    (hg : ∀ (e : Env) γ S σ a w, e.N = N → (∀ j, j ∈ σ → j < m) → (∀ j, j ∈ hdeps o → j ∈ σ) → Rep e γ S (at_ ops.toList val s σ) a w → Region.wanted o (Go.yielded ops a.tmps) = false) : StepOK C N n0 ops m s val i := by
  intro e γ S σ a w hN h0 hσ hm hi hdp hR K Q' hK
  have hop : ops[i]? = some o := by simpa using ho
  unfold wpOp
  rw [hop]
  simp only
  rw [if_neg (by rw [hg e γ S σ a w hN hm (fun j hj => hdp o j ho hj) hR]; simp)]
  refine hK γ S _ w ?_
  have hat : dstAt ops.toList i = o.dst := by simp [dstAt, ho]
  simp only [at_, hat, hv]
  exact hR.putO (v := .tup []) ⟨[], rfl, trivial⟩ (by rw [hN]; exact hd)

theorem evD_sound (hc : ChkD ops.toList m) {F : List SV → Prop} : ∀ (r : List Oper) (i : Nat) (acc : List SV), r = (ops.toList.take m).drop i → acc.length = i → i ≤ m → evD C N n0 ops m s F r i acc →
    ∃ acc', acc'.length = m ∧ (∀ j, j < i → acc'[j]? = acc[j]?) ∧ F acc' ∧ ∀ k, i ≤ k → k < m → StepOK C N n0 ops m s (fun j => acc'.getD j (one .any)) k
  | [], i, acc, hr, hl, him, h => by
    have h1 := congrArg List.length hr
    simp only [List.length_nil, List.length_drop, List.length_take] at h1
    have := hc.le
    refine ⟨acc, by omega, fun _ _ => rfl, h, fun k h2 h3 => by omega⟩
  | o :: r, i, acc, hr, hl, him, h => by
    have hlen := congrArg List.length hr
    simp only [List.length_cons, List.length_drop, List.length_take] at hlen
    have hlt : i < m := by omega
    have ho : ops.toList[i]? = some o := by
      have h1 := congrArg (fun l => l[0]?) hr
      simp only [List.getElem?_cons_zero, List.getElem?_drop, Nat.add_zero] at h1
      rw [List.getElem?_take_of_lt hlt] at h1; exact h1.symm
    have hr' : r = (ops.toList.take m).drop (i + 1) := by
      have h1 := congrArg List.tail hr
      simpa using h1
    have go : ∀ (acc0 : List SV) (v : SV) (F' : Prop), acc0.length = i → evD C N n0 ops m s F r (i + 1) (acc0 ++ [v]) →
        (∀ val : Nat → SV, (∀ j u, j < i → acc0[j]? = some u → val j = u) → val i = v → StepOK C N n0 ops m s val i) →
        ∃ acc', acc'.length = m ∧ (∀ j, j < i → acc'[j]? = acc0[j]?) ∧ F acc' ∧ ∀ k, i ≤ k → k < m → StepOK C N n0 ops m s (fun j => acc'.getD j (one .any)) k := by
      intro acc0 v _ hl0 hev hstep
      obtain ⟨acc', h1, h2, h3, h4⟩ := evD_sound hc r (i + 1) (acc0 ++ [v]) hr' (by simp [hl0]) (by omega) hev
      have h5 : ∀ j, j < i → acc'[j]? = acc0[j]? := fun j hj => by rw [h2 j (by omega), List.getElem?_append_left (by omega)]
      have h6 : acc'[i]? = some v := by rw [h2 i (by omega), List.getElem?_append_right (by omega), hl0]; simp
      refine ⟨acc', h1, h5, h3, fun k hk hkm => ?_⟩
      rcases Nat.eq_or_lt_of_le hk with rfl | hk
      · refine hstep _ (fun j u hj hu => ?_) ?_
        · simp only [List.getD_eq_getElem?_getD, h5 j hj, hu, Option.getD_some]
        · simp only [List.getD_eq_getElem?_getD, h6, Option.getD_some]
      · exact h4 k hk hkm
    unfold evD at h
    simp only [fAcc_eq] at h
    split at h
    · rename_i hg
      have hw : ∀ (val : Nat → SV) (e : Env) γ S σ a w, e.N = N → (∀ j, j ∈ σ → j < m) → (∀ j, j ∈ hdeps o → j ∈ σ) → Rep e γ S (at_ ops.toList val s σ) a w → Region.wanted o (Go.yielded ops a.tmps) = true :=
        fun val e γ S σ a w _ _ _ _ => by simp [Region.wanted, hg]
      split at h
      · rename_i p v hv
        exact go acc v True hl h.2 fun val h1 h2 => StepOK.val hc ho h1 (.inl rfl) (hw val) (.inl ⟨p, v, hv, h.1, h2⟩)
      · obtain ⟨v, hcall, h⟩ := h
        exact go acc v True hl h fun val h1 h2 => StepOK.val hc ho h1 (.inl rfl) (hw val) (.inr ⟨v, hcall, h2⟩)
    · rename_i j want hg
      split at h
      · rename_i b hb
        split at h
        · rename_i d hd
          cases hcond : ((hdeps o).any (Nat.beq j) && Nat.blt d N && dstOK N o.dst) with
          | false => rw [hcond] at h; exact h.elim
          | true =>
            rw [hcond] at h
            simp only [cond_true] at h
            simp only [Bool.and_eq_true] at hcond
            obtain ⟨⟨hjd, hdN⟩, hdst⟩ := hcond
            have hj : j ∈ hdeps o := by
              simp only [List.any_eq_true] at hjd
              obtain ⟨k, hk, he⟩ := hjd
              rw [Nat.eq_of_beq_eq_true he]; exact hk
            have hji := hc.hlt ho hj
            have h := two.out h
            have hset : acc.set j (litS (.bool b)) = acc := set_self hb
            rw [hset] at h
            have hy : ∀ (val : Nat → SV), (∀ k u, k < i → acc[k]? = some u → val k = u) → ∀ (e : Env) γ S σ a w, e.N = N → (∀ j, j ∈ σ → j < m) → (∀ j, j ∈ hdeps o → j ∈ σ) → Rep e γ S (at_ ops.toList val s σ) a w → Go.yielded ops a.tmps j = some b := by
              intro val hval e γ S σ a w hN hm hdp hR
              refine hR.yielded (d := d) hd ?_ (by rw [hN]; exact Nat.le_of_ble_eq_true hdN)
              rw [at_have hc hm (hdp j hj) hd, hval j _ hji hb]; rfl
            have h := two.out h
            split at h
            · rename_i hyes
              have hbw : b = want := by cases want <;> cases b <;> first | rfl | cases hyes
              have hw : ∀ (val : Nat → SV), (∀ k u, k < i → acc[k]? = some u → val k = u) → ∀ (e : Env) γ S σ a w, e.N = N → (∀ j, j ∈ σ → j < m) → (∀ j, j ∈ hdeps o → j ∈ σ) → Rep e γ S (at_ ops.toList val s σ) a w → Region.wanted o (Go.yielded ops a.tmps) = true :=
                fun val hval e γ S σ a w h1 h2 h3 h4 => by simp [Region.wanted, hg, hy val hval e γ S σ a w h1 h2 h3 h4, hbw]
              split at h
              · rename_i p v hv
                exact go acc v True hl h.2 fun val h1 h2 => StepOK.val hc ho h1 (.inr rfl) (hw val h1) (.inl ⟨p, v, hv, h.1, h2⟩)
              · obtain ⟨v, hcall, h⟩ := h
                exact go acc v True hl h fun val h1 h2 => StepOK.val hc ho h1 (.inr rfl) (hw val h1) (.inr ⟨v, hcall, h2⟩)
            · rename_i hno
              have hbw : b = !want := by cases want <;> cases b <;> first | rfl | cases hno
              exact go acc _ True hl h fun val h1 h2 => StepOK.skip hc ho hdst h2 fun e γ S σ a w h3 h4 h5 h6 => by
                simp [Region.wanted, hg, hy val h1 e γ S σ a w h3 h4 h5 h6, hbw]
        · exact h.elim
      · rename_i hb
        split at h
        · rename_i d hd
          cases hcond : ((hdeps o).any (Nat.beq j) && Nat.blt d N && dstOK N o.dst) with
          | false => rw [hcond] at h; exact h.elim
          | true =>
            rw [hcond] at h
            simp only [cond_true] at h
            simp only [Bool.and_eq_true] at hcond
            obtain ⟨⟨hjd, hdN⟩, hdst⟩ := hcond
            have hj : j ∈ hdeps o := by
              simp only [List.any_eq_true] at hjd
              obtain ⟨k, hk, he⟩ := hjd
              rw [Nat.eq_of_beq_eq_true he]; exact hk
            have hji := hc.hlt ho hj
            exact go acc _ True hl h fun val h1 h2 => StepOK.skip hc ho hdst h2 fun e γ S σ a w h3 h4 h5 h6 => by
              have hy := h6.yielded_no (ops := ops) (j := j) (d := d) hd (by rw [at_have hc h4 (h5 j hj) hd, h1 j _ hji hb]) (by rw [h3]; exact Nat.le_of_ble_eq_true hdN)
              simp [Region.wanted, hg, hy]
        · exact h.elim
      · exact h.elim
end
end Go.Fw
/- The framework, part 21: a drawn region: every order that is let in comes to the same. -/
set_option linter.unusedVariables false
set_option linter.unusedSimpArgs false
namespace Go.Fw
open Go

theorem nodup_len : ∀ (m : Nat) (l : List Nat), l.Nodup → (∀ x, x ∈ l → x < m) → l.length ≤ m
  | 0, [], _, _ => Nat.le_refl _
  | 0, x :: r, _, h => absurd (h x List.mem_cons_self) (Nat.not_lt_zero x)
  | m + 1, l, hn, h => by
    by_cases hm : m ∈ l
    · have h1 := nodup_len m (l.erase m) (hn.erase m) (fun x hx => by
        have h2 := (hn.mem_erase_iff.1 hx)
        have := h x h2.2
        omega)
      rw [List.length_erase_of_mem hm] at h1
      omega
    · have h1 := nodup_len m l hn (fun x hx => by
        have := h x hx
        rcases Nat.lt_succ_iff_lt_or_eq.1 this with h2 | rfl
        · exact h2
        · exact absurd hx hm)
      omega
def revRange : Nat → List Nat
  | 0 => []
  | n + 1 => n :: revRange n
theorem mem_revRange : ∀ {n j : Nat}, j ∈ revRange n ↔ j < n
  | 0, j => by simp [revRange]
  | n + 1, j => by simp only [revRange, List.mem_cons, mem_revRange (n := n)]; omega

section
variable {C : Cx} {N n0 : Nat} {ops : Array Oper} {l : List Oper} {s M : St} {Q : Exit → St → Prop} {m : Nat}
theorem putAll_snoc : ∀ (s : St) (l : List Oper) (vs : List SV) (o : Oper) (v : SV), l.length = vs.length → putAll s (l ++ [o]) (vs ++ [v]) = (putAll s l vs).putO o.dst v
  | s, [], [], o, v, _ => rfl
  | s, x :: l, u :: vs, o, v, h => by
    simp only [List.cons_append, putAll]
    exact putAll_snoc _ l vs o v (by simpa using h)
  | s, [], _ :: _, o, v, h => by simp at h
  | s, _ :: _, [], o, v, h => by simp at h
theorem at_revRange (l : List Oper) (s : St) (acc : List SV) : ∀ k, k ≤ l.length → k ≤ acc.length → at_ l (fun j => acc.getD j (one .any)) s (revRange k) = putAll s (l.take k) (acc.take k)
  | 0, _, _ => rfl
  | k + 1, h1, h2 => by
    rw [List.take_succ_eq_append_getElem (by omega), List.take_succ_eq_append_getElem (by omega), putAll_snoc _ _ _ _ _ (by simp; omega)]
    simp only [revRange, at_]
    rw [at_revRange l s acc k (by omega) (by omega)]
    have e1 : dstAt l k = (l[k]'(by omega)).dst := by simp [dstAt, List.getElem?_eq_getElem (show k < l.length by omega)]
    have e2 : acc.getD k (one .any) = acc[k]'(by omega) := by simp [List.getD_eq_getElem?_getD, List.getElem?_eq_getElem (show k < acc.length by omega)]
    rw [e1, e2]
theorem at_all (hc : ChkD l m) {val : Nat → SV} {σ : List Nat} (hm : ∀ j, j ∈ σ ↔ j < m) : Sub (at_ l val s (revRange m)) (at_ l val s σ) := by
  refine ⟨fun t v h => ?_, by rw [(at_h l val s _).1, (at_h l val s _).1], by rw [(at_h l val s _).2, (at_h l val s _).2]⟩
  by_cases hj : ∃ j, j < m ∧ dstAt l j = some t
  · obtain ⟨j, h1, h2⟩ := hj
    rw [at_have hc (fun k hk => mem_revRange.1 hk) (mem_revRange.2 h1) h2] at h
    rw [at_have hc (fun k hk => (hm k).1 hk) ((hm j).2 h1) h2]; exact h
  · rw [at_base (fun k hk hd => hj ⟨k, mem_revRange.1 hk, hd⟩)] at h
    rw [at_base (fun k hk hd => hj ⟨k, (hm k).1 hk, hd⟩)]; exact h

theorem ready_of {md : Region.Mode} {listed : Array Bool} (hc : ChkD ops.toList m) (hs : listed.size = ops.size) {j : Nat} (hj : j < ops.size) (hn : listed.getD j true = false) (hall : ∀ k, k < j → listed.getD k true = true) : j ∈ Region.ready md ops listed := by
  rw [mem_ready]
  refine ⟨hn, ops[j], Array.getElem?_eq_getElem hj, fun e he _ => ?_⟩
  have h1 := hc.edge j ops[j] e (by simp [hj]) he
  have h2 := hall _ h1
  have h3 : e.on < listed.size := by omega
  simp only [Array.getD_eq_getD_getElem?, Array.getElem?_eq_getElem h3, Option.getD_some] at h2 ⊢
  exact h2
theorem ready_deps {md : Region.Mode} {listed : Array Bool} (hs : listed.size = ops.size) {j : Nat} (hj : j ∈ Region.ready md ops listed) :
    j < ops.size ∧ listed.getD j true = false ∧ ∀ o, ops.toList[j]? = some o → ∀ k, k ∈ hdeps o → k < ops.size ∧ listed.getD k true = true := by
  obtain ⟨h1, o, h2, h3⟩ := mem_ready.1 hj
  refine ⟨(Array.getElem?_eq_some_iff.1 h2).1, h1, fun o' ho' k hk => ?_⟩
  have ho' : ops[j]? = some o' := by simpa using ho'
  rw [h2] at ho'; cases ho'
  obtain ⟨e, h4, h5, rfl⟩ := mem_hdepsE hk
  have h6 := h3 e (by simpa using h4) (hard_binds h5 md)
  have h7 : e.on < listed.size := by
    rcases Nat.lt_or_ge e.on listed.size with h | h
    · exact h
    · simp [Array.getD_eq_getD_getElem?, Array.getElem?_eq_none h] at h6
  simp only [Array.getD_eq_getD_getElem?, Array.getElem?_eq_getElem h7, Option.getD_some] at h6 ⊢
  exact ⟨by omega, h6⟩
theorem listed_set {listed : Array Bool} (hs : listed.size = ops.size) {i : Nat} (hi : i < ops.size) (j : Nat) : (listed.setIfInBounds i true).getD j true = true ↔ j = i ∨ listed.getD j true = true := by
  by_cases h : i = j
  · subst h
    have : i < listed.size := by omega
    simp [this]
  · rw [getD_set_ne true h]
    constructor
    · exact .inr
    · rintro (rfl | h1)
      · exact absurd rfl h
      · exact h1

/-- Behind the first m: in order. -/
theorem any_rest {P : Program} {md : Region.Mode} {R : Exit → Act → World → Prop} (hc : ChkD ops.toList m) : ∀ (fuel : Nat) (listed : Array Bool) (a : Act) (w : World) (i : Nat), listed.size = ops.size → m ≤ i → i ≤ ops.size →
    (∀ j, j < ops.size → (listed.getD j true = true ↔ j < i)) → ops.size ≤ fuel + i → wpList P ops R (ops.toList.drop i) a w → wpAny P md ops R fuel listed a w := by
  intro fuel
  induction fuel with
  | zero =>
    intro listed a w i hs hm hi hl hf hw
    have : i = ops.size := by omega
    subst this
    refine ⟨?_, ?_⟩
    · rw [List.eq_nil_iff_forall_not_mem]
      intro j hj
      obtain ⟨h1, h2, _⟩ := ready_deps hs hj
      rw [(hl j h1).2 h1] at h2; cases h2
    · rw [List.drop_of_length_le (by simp)] at hw; exact hw
  | succ fuel ih =>
    intro listed a w i hs hm hi hl hf hw
    refine ⟨fun hr => ?_, fun j hj => ?_⟩
    · have : i = ops.size := by
        rcases Nat.eq_or_lt_of_le hi with h | h
        · exact h
        · exfalso
          have h1 : listed.getD i true = false := by
            cases hb : listed.getD i true with
            | false => rfl
            | true => have := (hl i h).1 hb; omega
          have h2 := ready_of (md := md) hc hs h h1 (fun k hk => (hl k (by omega)).2 hk)
          rw [hr] at h2; cases h2
      subst this
      rw [List.drop_of_length_le (by simp)] at hw; exact hw
    · obtain ⟨h1, h2, h3⟩ := ready_deps hs hj
      have hji : j = i := by
        have h4 : ¬ j < i := fun h => by rw [(hl j h1).2 h] at h2; cases h2
        rcases Nat.eq_or_lt_of_le (Nat.le_of_not_lt h4) with h5 | h5
        · exact h5.symm
        · exfalso
          have hr := hc.all j i (by omega) (by simpa using h1) h5
          have ho : ops.toList[j]? = some ops[j] := by simp [h1]
          have hd : ∀ k, k ∈ hdeps ops[j] → k < i := fun k hk => by
            obtain ⟨h6, h7⟩ := h3 _ ho k hk
            exact (hl k h6).1 h7
          cases hlen : ops.toList.length with
          | zero =>
            have h9 : ops.toList.length = ops.size := by simp
            omega
          | succ f =>
            rw [hlen] at hr
            simp only [reach, ho, Bool.or_eq_true, List.any_eq_true] at hr
            rcases hr with ⟨k, hk, he⟩ | ⟨k, hk, hr⟩
            · obtain rfl := Nat.eq_of_beq_eq_true he; exact absurd (hd _ hk) (Nat.lt_irrefl _)
            · have := hc.reach_lt hr; have := hd _ hk; omega
      subst hji
      have ho : ops.toList.drop j = ops[j] :: ops.toList.drop (j + 1) := by
        rw [List.drop_eq_getElem_cons (by simpa using h1)]; simp
      rw [ho] at hw
      unfold wpList at hw
      have hcont : ∀ a w, wpList P ops R (ops.toList.drop (j + 1)) a w → wpAny P md ops R fuel (listed.setIfInBounds j true) a w := fun a w hw =>
        ih _ a w (j + 1) (by simp [hs]) (by omega) (by omega) (fun k hk => by rw [listed_set hs h1, hl k hk]; omega) (by omega) hw
      unfold wpOp
      rw [Array.getElem?_eq_getElem h1]
      simp only
      split
      · rename_i hwant
        rw [if_pos hwant] at hw
        exact hw.imp (Oper.wp_mono hcont) id
      · rename_i hwant
        rw [if_neg hwant] at hw
        exact hcont _ _ hw

theorem any_free {md : Region.Mode} {acc : List SV} (hc : ChkD ops.toList m) (hlen : acc.length = m) (hstep : ∀ k, k < m → StepOK C N n0 ops m s (fun j => acc.getD j (one .any)) k) {e : Env} (hN : e.N = N) (h0 : e.n0 = n0)
    (hrest : JL C N n0 ops (ops.toList.drop m) (putAll s (ops.toList.take m) acc) Q) : ∀ (fuel : Nat) (listed : Array Bool) (a : Act) (w : World) (σ : List Nat) (γ : Nat → Option Value) (S : Nat → Prop), listed.size = ops.size →
    Ok (depF ops.toList) σ → (∀ j, j ∈ σ → j < m) → (∀ j, j < ops.size → (listed.getD j true = true ↔ j ∈ σ)) → ops.size ≤ fuel + σ.length → Rep e γ S (at_ ops.toList (fun j => acc.getD j (one .any)) s σ) a w → wpAny C.P md ops (Post Q e) fuel listed a w := by
  have hmle : m ≤ ops.size := by simpa using hc.le
  intro fuel
  induction fuel with
  | zero =>
    intro listed a w σ γ S hs hσ hm hl hf hR
    by_cases hall : ∀ j, j < m → j ∈ σ
    · refine any_rest hc 0 listed a w m hs (Nat.le_refl _) hmle (fun j hj => ?_) ?_ ?_
      · rw [hl j hj]; exact ⟨hm j, hall j⟩
      · have := nodup_len m σ hσ.nodup hm; omega
      · have h1 := hR.sub (at_all hc (fun j => ⟨hm j, hall j⟩))
        rw [at_revRange _ _ _ _ (by simpa using hmle) (by omega), List.take_of_length_le (l := acc) (by omega)] at h1
        exact hrest e γ S a w hN h0 h1
    · exfalso
      apply hall
      intro j hj
      by_cases hjσ : j ∈ σ
      · exact hjσ
      · exfalso
        have := nodup_len m (j :: σ) (List.nodup_cons.2 ⟨hjσ, hσ.nodup⟩) (fun x hx => by
          rcases List.mem_cons.1 hx with rfl | hx
          · exact hj
          · exact hm x hx)
        simp only [List.length_cons] at this
        omega
  | succ fuel ih =>
    intro listed a w σ γ S hs hσ hm hl hf hR
    by_cases hall : ∀ j, j < m → j ∈ σ
    · refine any_rest hc (fuel + 1) listed a w m hs (Nat.le_refl _) hmle (fun j hj => ?_) ?_ ?_
      · rw [hl j hj]; exact ⟨hm j, hall j⟩
      · have := nodup_len m σ hσ.nodup hm; omega
      · have h1 := hR.sub (at_all hc (fun j => ⟨hm j, hall j⟩))
        rw [at_revRange _ _ _ _ (by simpa using hmle) (by omega), List.take_of_length_le (l := acc) (by omega)] at h1
        exact hrest e γ S a w hN h0 h1
    · refine ⟨fun hr => ?_, fun j hj => ?_⟩
      · exfalso
        apply hall
        intro j
        induction j using Nat.strongRecOn with
        | _ j ihj =>
          intro hj
          by_cases hjσ : j ∈ σ
          · exact hjσ
          · exfalso
            have h1 : listed.getD j true = false := by
              cases hb : listed.getD j true with
              | false => rfl
              | true => exact absurd ((hl j (by omega)).1 hb) hjσ
            have h2 := ready_of (md := md) hc hs (by omega : j < ops.size) h1 (fun k hk => (hl k (by omega)).2 (ihj k hk (by omega)))
            rw [hr] at h2; cases h2
      · obtain ⟨h1, h2, h3⟩ := ready_deps hs hj
        have hjσ : j ∉ σ := fun h => by rw [(hl j h1).2 h] at h2; cases h2
        have hd : ∀ o k, ops.toList[j]? = some o → k ∈ hdeps o → k ∈ σ := fun o k ho hk => by
          obtain ⟨h4, h5⟩ := h3 o ho k hk
          exact (hl k h4).1 h5
        have ho : ops.toList[j]? = some ops[j] := by simp [h1]
        have hjm : j < m := by
          rcases Nat.lt_or_ge j m with h | h
          · exact h
          · exfalso
            apply hall
            intro k hk
            exact reach_in hσ ho (fun x hx => hd _ x ho hx) (hc.all j k h (by simpa using h1) (by omega))
        refine hstep j hjm e γ S σ a w hN h0 hσ hm hjσ hd hR _ _ fun γ' S' a' w' hr => ?_
        refine ih _ a' w' (j :: σ) γ' S' (by simp [hs]) (.cons hσ hjσ (fun k hk => hd _ k ho (by rw [← depF_of ho]; exact hk))) ?_ ?_ (by simp only [List.length_cons]; omega) hr
        · intro k hk
          rcases List.mem_cons.1 hk with rfl | hk
          · exact hjm
          · exact hm k hk
        · intro k hk
          rw [listed_set hs h1, hl k hk, List.mem_cons]

theorem Rep.drew {e : Env} {γ : Nat → Option Value} {S : Nat → Prop} {a : Act} {w : World} (hR : Rep e γ S s a w) (n : Nat) (hn : w.drawn ≤ n) : Rep e γ S s a { w with drawn := n } := by
  have hsame : Same S w { w with drawn := n } := fun _ _ => rfl
  exact { hR with slots := fun d v h => (hR.slots d v h).move hsame (fun _ h => h) (fun _ _ _ _ => rfl), heap := ⟨fun id o hm => (hR.heap.obj id o hm).move hsame (fun _ h => h) (fun _ _ _ _ => rfl) rfl (fun b _ => ⟨rfl, fun h => h⟩), hR.heap.apart, hR.heap.keys⟩, kept := ⟨hR.kept.os, hR.kept.tape, hR.kept.output, Nat.le_trans hR.kept.dr hn, hR.kept.size, hR.kept.block⟩ }
/-- A region whose order is drawn: the first m in any order, the rest in its own. -/
theorem JC.draw {id : Nat} (m : Nat) (hchk : chkD ops.toList m = true)
    (h : evD C N n0 ops m s (fun acc => JL C N n0 ops (ops.toList.drop m) (putAll s (ops.toList.take m) acc) Q) (ops.toList.take m) 0 []) : JC C N n0 (.region id ops true) s Q := by
  have hc := chkD_spec hchk
  obtain ⟨acc, h1, _, h2, h3⟩ := evD_sound hc (ops.toList.take m) 0 [] rfl rfl (Nat.zero_le _) h
  intro e γ S a w hN h0 hR
  refine wp_region_draw fun t => ?_
  have key : ∀ md t, wpOps C.P ops (Post Q e) (Region.linearise md ops t) a { w with drawn := w.drawn + 1 } := by
    intro md t
    unfold Region.linearise
    refine wpAny_sound ops.size t _ a _ ?_
    refine any_free hc h1 (fun k hk => h3 k (Nat.zero_le _) hk) hN h0 h2 ops.size _ a _ [] γ S (by simp) .nil (fun j hj => by cases hj) (fun j hj => ?_) (by simp) (hR.drew _ (Nat.le_succ _))
    simp [hj]
  unfold Region.schedule
  split
  · exact key _ _
  · exact key _ _
end
end Go.Fw
/- The framework, part 23: a text's next sign. -/
set_option linter.unusedVariables false
set_option linter.unusedSimpArgs false
namespace Go.Fw
open Go

theorem two_t {F : Bool → Prop} (h : F true) : two true F := ⟨fun _ => h, nofun⟩
theorem two_f {F : Bool → Prop} (h : F false) : two false F := ⟨nofun, fun _ => h⟩
section
variable {C : Cx} {N n0 : Nat} {ops : Array Oper} {l : List Oper} {s : St} {Q : Exit → St → Prop} {o : Oper}
theorem JL.next {x : Operand} {id pos : Nat} {z : ByteArray} (hg : o.guard = none) (ho : o.op = .next x true) (hd : dstOK N o.dst = true) (hx : s.op x = some (one (.ref id 0))) (hl : lk s.h id = some (.it z pos))
    (h1 : pos < z.size → JL C N n0 ops l (St.putO { s with h := setO s.h id (.it z (pos + (Utf8.decode z pos).2)) } o.dst (.tup [.one (.data (.lit (.bool true))), .one (.data (.lit (.int .i64 pos))), .one (.data (.lit (.int .i32 (Utf8.decode z pos).1)))])) Q)
    (h2 : ¬ pos < z.size → JL C N n0 ops l (s.putO o.dst (.tup [.one (.data (.lit (.bool false)))])) Q) : JL C N n0 ops (o :: l) s Q := by
  intro e γ S a w hN h0 hR
  subst hN
  refine wpList_plain hg fun K hK => ?_
  have hv : RD γ S w (.ref id 0) (a.eval x) := hR.op hx
  have hm := lk_mem hl
  have ho' := hR.heap.obj _ _ hm
  cases ho' with
  | it hgm hh hS =>
    rename_i b
    have hb : blk γ id = some b := by simp [blk, hgm, vblk]
    generalize hu : a.eval x = u at hv
    cases hv with
    | ref hb' =>
      rename_i b'
      obtain rfl : b' = b := Option.some.inj (hb'.symm.trans hb)
      have hlt : b' < w.heap.size := (Array.getElem?_eq_some_iff.1 hh).1
      by_cases hp : pos < z.size
      · let w' : World := { w with heap := w.heap.setIfInBounds b' (.stringIter z (pos + (Utf8.decode z pos).2)) }
        have hrun : (execOp a.eval o).run C.P w = .ok (.value (.tuple #[.bool true, .int .i64 pos, .int .i32 (Utf8.decode z pos).1])) w' := by
          simp only [execOp, ho, hu, Instr.next, getObj, setObj, Sem.run_bind, Sem.run, hh, Result.andThen, hp, if_true]
          simp [goInt, Sem.run, w']
        have hR' := hR.turn (o' := .it z (pos + (Utf8.decode z pos).2)) (w' := w') hm hb rfl ⟨rfl, Nat.le_refl _⟩ rfl (by simp [w']) (fun k hk => by simp only [w']; rw [Array.getElem?_setIfInBounds_ne (Ne.symm hk)]) rfl
          (.it hgm (by simp [w', hlt]) hS)
        refine upon_runs (r := some _) hrun (hK _ _ (h1 hp e γ S _ w' rfl h0 (hR'.putO (v := .tup _) ⟨[_, _, _], rfl, .data (.lit _), .data (.lit _), .data (.lit _), trivial⟩ hd)))
      · have hrun : (execOp a.eval o).run C.P w = .ok (.value (.tuple #[.bool false])) w := by
          simp only [execOp, ho, hu, Instr.next, getObj, Sem.run_bind, Sem.run, hh, Result.andThen, hp, if_false]
          rfl
        refine upon_runs (r := some _) hrun (hK _ _ (h2 hp e γ S _ w rfl h0 (hR.putO (v := .tup _) ⟨[_], rfl, .data (.lit _), trivial⟩ hd)))
end
end Go.Fw
