/- The framework, part 29: drawn regions in which one operation makes objects: the evaluator, and that it is right. -/
import Derived.Test.YtlhfajmcnbcabaaFwE
set_option linter.unusedVariables false
set_option linter.unusedSimpArgs false
namespace Go.Fw
open Go

def nmk : Option Mk → Nat → Bool
  | some k, i => !Nat.beq k.c i
  | none, _ => true
/-- What an operation finds: with the new objects, if it waits for them. -/
def stFM (l : List Oper) (m : Nat) (mk : Option Mk) (s : St) (acc : List SV) (i : Nat) (o : Oper) : St :=
  match mk with
  | some k => bif (hdeps o).any (Nat.beq k.c) then ⟨slotsFor l m s acc i o (needs o), k.h1 ++ s.h, s.nx + k.n⟩ else stFor l m s acc i o
  | none => stFor l m s acc i o
def evM (C : Cx) (N n0 : Nat) (ops : Array Oper) (m : Nat) (mk : Option Mk) (s : St) (F : List SV → Prop) : List Oper → Nat → List SV → Prop
  | [], _, acc => F acc
  | o :: r, i, acc => match o.guard with
    | none => match vopB C.T C.q N (stFM ops.toList m mk s acc i o) o with
      | some (p, v) => p ∧ nmk mk i = true ∧ fAcc acc v fun acc' => evM C N n0 ops m mk s F r (i + 1) acc'
      | none => match newOp C.T (stFor ops.toList m s acc i o) o with
        | some (ob, d) => mk = some ⟨i, [(s.nx, ob)], 1⟩ ∧ dstOK N o.dst = true ∧ fAcc acc (one d) fun acc' => evM C N n0 ops m mk s F r (i + 1) acc'
        | none => (∃ v, CallM C N n0 ops o (stFM ops.toList m mk s acc i o) v ∧ nmk mk i = true ∧ fAcc acc v fun acc' => evM C N n0 ops m mk s F r (i + 1) acc') ∨
            (∃ v h1 n, mk = some ⟨i, h1, n⟩ ∧ MakeM C N n0 ops o (stFor ops.toList m s acc i o) v h1 n ∧ fAcc acc v fun acc' => evM C N n0 ops m mk s F r (i + 1) acc')
    | some (j, want) => match acc[j]? with
      | some (.c (.one (.data (.lit (.bool b))))) => match dstAt ops.toList j with
        | some d => bif (hdeps o).any (Nat.beq j) && Nat.blt d N && dstOK N o.dst && nmk mk i then two b fun b' => two (bif want then b' else !b') fun y => match y with
            | true => match vopB C.T C.q N (stFM ops.toList m mk s (acc.set j (litS (.bool b'))) i (unguard o)) (unguard o) with
              | some (p, v) => p ∧ fAcc (acc.set j (litS (.bool b'))) v fun acc' => evM C N n0 ops m mk s F r (i + 1) acc'
              | none => ∃ v, CallM C N n0 ops (unguard o) (stFM ops.toList m mk s (acc.set j (litS (.bool b'))) i (unguard o)) v ∧ fAcc (acc.set j (litS (.bool b'))) v fun acc' => evM C N n0 ops m mk s F r (i + 1) acc'
            | false => fAcc (acc.set j (litS (.bool b'))) (.tup []) fun acc' => evM C N n0 ops m mk s F r (i + 1) acc'
          else False
        | none => False
      | some (.tup []) => match dstAt ops.toList j with
        | some d => bif (hdeps o).any (Nat.beq j) && Nat.blt d N && dstOK N o.dst && nmk mk i then fAcc acc (.tup []) fun acc' => evM C N n0 ops m mk s F r (i + 1) acc' else False
        | none => False
      | _ => False

def StepM (C : Cx) (N n0 : Nat) (ops : Array Oper) (m : Nat) (mk : Option Mk) (s : St) (val : Nat → SV) (i : Nat) : Prop :=
  ∀ (e : Env) γ S σ a w, e.N = N → e.n0 = n0 → Ok (depF ops.toList) σ → (∀ j, j ∈ σ → j < m) → i ∉ σ → (∀ o j, ops.toList[i]? = some o → j ∈ hdeps o → j ∈ σ) → Rep e γ S (atM ops.toList val mk s σ) a w →
    ∀ (K : Act → World → Prop) (Q : Exit → Act → World → Prop), (∀ γ' S' a' w', Rep e γ' S' (atM ops.toList val mk s (i :: σ)) a' w' → K a' w') → wpOp C.P ops Q i K a w

section
variable {C : Cx} {N n0 : Nat} {ops : Array Oper} {l : List Oper} {s M : St} {Q : Exit → St → Prop} {m : Nat} {mk : Option Mk}
abbrev notMk (mk : Option Mk) (i : Nat) : Prop := nmk mk i = true
theorem notMk_at {i : Nat} (h : notMk mk i) (s : St) : mkAt mk i s = s := by
  cases mk with
  | none => rfl
  | some k =>
    have h : Nat.beq k.c i = false := by
      have h' : (!Nat.beq k.c i) = true := h
      cases hb : Nat.beq k.c i with
      | false => rfl
      | true => rw [hb] at h'; cases h'
    simp only [mkAt, h, cond_false]
theorem atM_have (hc : ChkD l m) {val : Nat → SV} {σ : List Nat} (hm : ∀ j, j ∈ σ → j < m) {j t : Nat} (hj : j ∈ σ) (hd : dstAt l j = some t) : lk (atM l val mk s σ).sl t = some (val j) :=
  atM_dst (fun k hk hkd => hc.dst k j t (hm k hk) (hm j hj) hkd hd) hj hd
theorem stFor_sl (hc : ChkD l m) {acc : List SV} {val : Nat → SV} {i : Nat} {o : Oper} {σ : List Nat} (hσ : Ok (depF l) σ) (hm : ∀ j, j ∈ σ → j < m) (hi : i ∉ σ) (hd : ∀ j, j ∈ hdeps o → j ∈ σ)
    (hv : ∀ j v, j ∈ hdeps o → acc[j]? = some v → val j = v) : ∀ d v, lk (stFor l m s acc i o).sl d = some v → lk (atM l val mk s σ).sl d = some v := by
  intro t v h
  have h := slotsFor_spec h
  unfold slotFor at h
  split at h
  · rename_i v' hf
    simp only [Option.some.injEq] at h; subst h
    obtain ⟨j, h1, h2, h3⟩ := findDep_spec hf
    rw [atM_have hc hm (hd j h1) h2, hv j _ h1 h3]
  · cases hb : busy i t (l.take m) with
    | true => rw [hb] at h; cases h
    | false =>
      rw [hb] at h
      rw [atM_base (fun k hk hkd => ?_)]; exact h
      unfold dstAt at hkd
      cases hok : l[k]? with
      | none => rw [hok] at hkd; cases hkd
      | some ok =>
        rw [hok] at hkd
        have hmem : ok ∈ l.take m := List.mem_of_getElem? (by rw [List.getElem?_take_of_lt (hm k hk)]; exact hok)
        exact hi (hσ.closed k hk i (by rw [depF_of hok]; exact busy_spec hb ok hmem (by simpa using hkd)))
theorem stFor_subM (hc : ChkD l m) {acc : List SV} {val : Nat → SV} {i : Nat} {o : Oper} {σ : List Nat} (hσ : Ok (depF l) σ) (hm : ∀ j, j ∈ σ → j < m) (hi : i ∉ σ) (hd : ∀ j, j ∈ hdeps o → j ∈ σ)
    (hv : ∀ j v, j ∈ hdeps o → acc[j]? = some v → val j = v) : SubM (stFor l m s acc i o) (atM l val mk s σ) := by
  have hh := atM_h l val mk s σ hσ.nodup
  refine ⟨stFor_sl hc hσ hm hi hd hv, ?_, ?_⟩
  · by_cases hk : ∃ k, mk = some k ∧ k.c ∈ σ
    · obtain ⟨k, h1, h2⟩ := hk; exact ⟨k.h1, (hh.2 k h1 h2).1⟩
    · exact ⟨[], (hh.1 (fun k h1 h2 => hk ⟨k, h1, h2⟩)).1⟩
  · by_cases hk : ∃ k, mk = some k ∧ k.c ∈ σ
    · obtain ⟨k, h1, h2⟩ := hk; rw [(hh.2 k h1 h2).2]; exact Nat.le_add_right _ _
    · rw [(hh.1 (fun k h1 h2 => hk ⟨k, h1, h2⟩)).2]; exact Nat.le_refl _

theorem stFM_subM (hc : ChkD l m) {acc : List SV} {val : Nat → SV} {i : Nat} {o : Oper} {σ : List Nat} (hσ : Ok (depF l) σ) (hm : ∀ j, j ∈ σ → j < m) (hi : i ∉ σ) (hd : ∀ j, j ∈ hdeps o → j ∈ σ)
    (hv : ∀ j v, j ∈ hdeps o → acc[j]? = some v → val j = v) : SubM (stFM l m mk s acc i o) (atM l val mk s σ) := by
  unfold stFM
  cases mk with
  | none => exact stFor_subM hc hσ hm hi hd hv
  | some k =>
    simp only
    cases hb : (hdeps o).any (Nat.beq k.c) with
    | false => exact stFor_subM hc hσ hm hi hd hv
    | true =>
      simp only [List.any_eq_true] at hb
      obtain ⟨j, hj, he⟩ := hb
      have hkj : k.c = j := Nat.eq_of_beq_eq_true he
      have hh := (atM_h l val (some k) s σ hσ.nodup).2 k rfl (by rw [hkj]; exact hd j hj)
      simp only [cond_true]
      exact ⟨stFor_sl hc hσ hm hi hd hv, ⟨[], by rw [hh.1]; rfl⟩, by rw [hh.2]; exact Nat.le_refl _⟩
theorem StepM.val (hc : ChkD ops.toList m) {acc : List SV} {val : Nat → SV} {i : Nat} {o : Oper} (ho : ops.toList[i]? = some o) (hv : ∀ j v, j < i → acc[j]? = some v → val j = v) {o' : Oper} (ho' : o' = o ∨ o' = unguard o) (hmk : notMk mk i)
    (hg : ∀ (e : Env) γ S σ a w, e.N = N → (∀ j, j ∈ σ → j < m) → (∀ j, j ∈ hdeps o → j ∈ σ) → Rep e γ S (atM ops.toList val mk s σ) a w → Region.wanted o (Go.yielded ops a.tmps) = true)
    (h : (∃ p v, vopB C.T C.q N (stFM ops.toList m mk s acc i o') o' = some (p, v) ∧ p ∧ val i = v) ∨ ∃ v, CallM C N n0 ops o' (stFM ops.toList m mk s acc i o') v ∧ val i = v) : StepM C N n0 ops m mk s val i := by
  intro e γ S σ a w hN h0 hσ hm hi hd hR K Q' hK
  have hd' := fun j hj => hd o j ho hj
  have hop : ops[i]? = some o := by simpa using ho
  have hdo : hdeps o' = hdeps o := by rcases ho' with rfl | rfl <;> rfl
  have hdst : o'.dst = o.dst := by rcases ho' with rfl | rfl <;> rfl
  have hsub : SubM (stFM ops.toList m mk s acc i o') (atM ops.toList val mk s σ) :=
    stFM_subM (s := s) (o := o') hc hσ hm hi (fun j hj => hd' j (hdo ▸ hj)) (fun j v hj => hv j v (hc.hlt ho (hdo ▸ hj)))
  have hat : dstAt ops.toList i = o.dst := by simp [dstAt, ho]
  unfold wpOp
  rw [hop]
  simp only
  rw [if_pos (hg e γ S σ a w hN hm hd' hR)]
  left
  rcases h with ⟨p, v, h1, hp, h2⟩ | ⟨v, h1, h2⟩
  · subst hN
    rw [← vopB_nx (n := (atM ops.toList val mk s σ).nx)] at h1
    obtain ⟨u, h3, h4⟩ := vopB_run (s := { sl := (stFM ops.toList m mk s acc i o').sl, h := (stFM ops.toList m mk s acc i o').h, nx := (atM ops.toList val mk s σ).nx }) ⟨fun _ _ h => h, rfl, rfl⟩ (hR.subM hsub) h1 hp
    have hdd : dstOK e.N o'.dst = true := by
      unfold vopB at h1
      cases hb : dstOK e.N o'.dst with
      | true => rfl
      | false => rw [hb] at h1; cases h1
    obtain ⟨u', h3', h5⟩ : ∃ u, runs C.P a w o' (some u) w ∧ RV γ S w v u := by
      unfold vopB at h1
      rw [hdd] at h1
      simp only [cond_true] at h1
      split at h1
      · rename_i r hv'
        simp only [Option.some.injEq] at h1; subst h1
        exact vopA_run C.hT C.hq (hR.subM hsub) hv' hp
      · split at h1
        · rename_i t parts ho2
          split at h1
          · rename_i ds hds
            simp only [Option.some.injEq, Prod.mk.injEq] at h1; obtain ⟨rfl, rfl⟩ := h1
            obtain ⟨out, h6, h7⟩ := build_run C.hT (hR.subM hsub) hds
            refine ⟨.agg out.toArray, ?_, ⟨out, rfl, h7⟩⟩
            simp only [runs, execOp, ho2, Sem.run_bind, h6, Result.andThen_ok, Sem.run_pure]
          · cases h1
        · cases h1
    have h6 : o'.wp C.P a w K Q' := upon_runs h3' (hK γ S _ w (by simp only [atM, hat, h2, notMk_at hmk]; rw [← hdst]; exact hR.putO h5 hdd))
    rcases ho' with rfl | rfl <;> exact h6
  · have h6 := h1 e γ S _ a w hN h0 hsub hR K Q' (fun γ' S' a' w' hr => hK γ' S' a' w' (by simp only [atM, hat, h2, notMk_at hmk]; rw [← hdst]; exact hr))
    rcases ho' with rfl | rfl <;> exact h6

theorem StepM.skip (hc : ChkD ops.toList m) {val : Nat → SV} {i : Nat} {o : Oper} (ho : ops.toList[i]? = some o) (hd : dstOK N o.dst = true) (hv : val i = .tup []) (hmk : notMk mk i)
    (hg : ∀ (e : Env) γ S σ a w, e.N = N → (∀ j, j ∈ σ → j < m) → (∀ j, j ∈ hdeps o → j ∈ σ) → Rep e γ S (atM ops.toList val mk s σ) a w → Region.wanted o (Go.yielded ops a.tmps) = false) : StepM C N n0 ops m mk s val i := by
  intro e γ S σ a w hN h0 hσ hm hi hdp hR K Q' hK
  have hop : ops[i]? = some o := by simpa using ho
  unfold wpOp
  rw [hop]
  simp only
  rw [if_neg (by rw [hg e γ S σ a w hN hm (fun j hj => hdp o j ho hj) hR]; simp)]
  refine hK γ S _ w ?_
  have hat : dstAt ops.toList i = o.dst := by simp [dstAt, ho]
  simp only [atM, hat, hv, notMk_at hmk]
  exact hR.putO (v := .tup []) ⟨[], rfl, trivial⟩ (by rw [hN]; exact hd)

/-- The one that makes objects. -/
theorem StepM.make (hc : ChkD ops.toList m) {acc : List SV} {val : Nat → SV} {i : Nat} {o : Oper} (ho : ops.toList[i]? = some o) (hv : ∀ j v, j < i → acc[j]? = some v → val j = v) (hg : o.guard = none) {h1 : Heap} {n : Nat} (hmk : mk = some ⟨i, h1, n⟩)
    (h : MakeM C N n0 ops o (stFor ops.toList m s acc i o) (val i) h1 n) : StepM C N n0 ops m mk s val i := by
  intro e γ S σ a w hN h0 hσ hm hi hd hR K Q' hK
  have hd' := fun j hj => hd o j ho hj
  have hop : ops[i]? = some o := by simpa using ho
  have hh := (atM_h ops.toList val mk s σ hσ.nodup).1 (fun k hk hm' => by rw [hmk] at hk; cases hk; exact hi hm')
  have hat : dstAt ops.toList i = o.dst := by simp [dstAt, ho]
  unfold wpOp
  rw [hop]
  simp only
  rw [if_pos (by simp [Region.wanted, hg])]
  left
  refine h e γ S _ a w hN h0 (stFor_sl hc hσ hm hi hd' (fun j v hj => hv j v (hc.hlt ho hj))) hh.1 hh.2 hR K Q' fun γ' S' a' w' hr => hK γ' S' a' w' ?_
  simp only [atM, hat]
  rw [hmk] at hr ⊢
  simp only [mkAt, show Nat.beq i i = true from by simp, cond_true]
  exact hr
theorem MakeM.new {o : Oper} {ob : O} {d : D} (hn : newOp C.T M o = some (ob, d)) (hd : dstOK N o.dst = true) : MakeM C N n0 ops o M (one d) [(M.nx, ob)] 1 := by
  intro e γ S s a w hN h0 hs1 hs2 hs3 hR K Q hK
  have hRM : Rep e γ S M a w := by
    have h := hR.subM (M := M) ⟨hs1, ⟨[], by rw [hs2]; rfl⟩, by omega⟩
    rw [hs3] at h; exact h
  obtain ⟨x, val, h1, h2, h3, h4⟩ := newOp_run C.hT hRM hn
  rw [← hs3] at h2 h4
  have h5 := hR.made x h2 h3
  refine upon_runs (r := some _) h1 (hK (upd γ s.nx val) S _ _ ?_)
  have h6 := h5.putO (d := o.dst) (v := one d) h4 (by rw [hN]; exact hd)
  have he : s.new ob = { s with h := [(M.nx, ob)] ++ s.h, nx := s.nx + 1 } := by rw [← hs3]; rfl
  rw [he] at h6
  exact h6

theorem evM_sound (hc : ChkD ops.toList m) {F : List SV → Prop} : ∀ (r : List Oper) (i : Nat) (acc : List SV), r = (ops.toList.take m).drop i → acc.length = i → i ≤ m → evM C N n0 ops m mk s F r i acc →
    ∃ acc', acc'.length = m ∧ (∀ j, j < i → acc'[j]? = acc[j]?) ∧ F acc' ∧ ∀ k, i ≤ k → k < m → StepM C N n0 ops m mk s (fun j => acc'.getD j (one .any)) k
  | [], i, acc, hr, hl, him, h => by
    have h1 := congrArg List.length hr
    simp only [List.length_nil, List.length_drop, List.length_take] at h1
    have := hc.le
    refine ⟨acc, by omega, fun _ _ => rfl, h, fun k h2 h3 => by omega⟩
  | o :: r, i, acc, hr, hl, him, h => by
    have hlen := congrArg List.length hr
    simp only [List.length_cons, List.length_drop, List.length_take] at hlen
    have hlt : i < m := by omega
    have ho : ops.toList[i]? = some o := by
      have h1 := congrArg (fun l => l[0]?) hr
      simp only [List.getElem?_cons_zero, List.getElem?_drop, Nat.add_zero] at h1
      rw [List.getElem?_take_of_lt hlt] at h1; exact h1.symm
    have hr' : r = (ops.toList.take m).drop (i + 1) := by
      have h1 := congrArg List.tail hr
      simpa using h1
    have go : ∀ (acc0 : List SV) (v : SV) (F' : Prop), acc0.length = i → evM C N n0 ops m mk s F r (i + 1) (acc0 ++ [v]) →
        (∀ val : Nat → SV, (∀ j u, j < i → acc0[j]? = some u → val j = u) → val i = v → StepM C N n0 ops m mk s val i) →
        ∃ acc', acc'.length = m ∧ (∀ j, j < i → acc'[j]? = acc0[j]?) ∧ F acc' ∧ ∀ k, i ≤ k → k < m → StepM C N n0 ops m mk s (fun j => acc'.getD j (one .any)) k := by
      intro acc0 v _ hl0 hev hstep
      obtain ⟨acc', h1, h2, h3, h4⟩ := evM_sound hc r (i + 1) (acc0 ++ [v]) hr' (by simp [hl0]) (by omega) hev
      have h5 : ∀ j, j < i → acc'[j]? = acc0[j]? := fun j hj => by rw [h2 j (by omega), List.getElem?_append_left (by omega)]
      have h6 : acc'[i]? = some v := by rw [h2 i (by omega), List.getElem?_append_right (by omega), hl0]; simp
      refine ⟨acc', h1, h5, h3, fun k hk hkm => ?_⟩
      rcases Nat.eq_or_lt_of_le hk with rfl | hk
      · refine hstep _ (fun j u hj hu => ?_) ?_
        · simp only [List.getD_eq_getElem?_getD, h5 j hj, hu, Option.getD_some]
        · simp only [List.getD_eq_getElem?_getD, h6, Option.getD_some]
      · exact h4 k hk hkm
    unfold evM at h
    simp only [fAcc_eq] at h
    split at h
    · rename_i hg
      have hw : ∀ (val : Nat → SV) (e : Env) γ S σ a w, e.N = N → (∀ j, j ∈ σ → j < m) → (∀ j, j ∈ hdeps o → j ∈ σ) → Rep e γ S (atM ops.toList val mk s σ) a w → Region.wanted o (Go.yielded ops a.tmps) = true :=
        fun val e γ S σ a w _ _ _ _ => by simp [Region.wanted, hg]
      split at h
      · rename_i p v hv
        exact go acc v True hl h.2.2 fun val h1 h2 => StepM.val hc ho h1 (.inl rfl) h.2.1 (hw val) (.inl ⟨p, v, hv, h.1, h2⟩)
      · split at h
        · rename_i ob d hn
          obtain ⟨hmk, hd, h⟩ := h
          exact go acc _ True hl h fun val h1 h2 => StepM.make hc ho h1 hg hmk (by rw [h2]; exact MakeM.new hn hd)
        · rcases h with ⟨v, hcall, hmk, h⟩ | ⟨v, h1', n, hmk, hmake, h⟩
          · exact go acc v True hl h fun val h1 h2 => StepM.val hc ho h1 (.inl rfl) hmk (hw val) (.inr ⟨v, hcall, h2⟩)
          · exact go acc v True hl h fun val h1 h2 => StepM.make hc ho h1 hg hmk (by rw [h2]; exact hmake)
    · rename_i j want hg
      split at h
      · rename_i b hb
        split at h
        · rename_i d hd
          cases hcond : ((hdeps o).any (Nat.beq j) && Nat.blt d N && dstOK N o.dst && nmk mk i) with
          | false => rw [hcond] at h; exact h.elim
          | true =>
            rw [hcond] at h
            simp only [cond_true] at h
            simp only [Bool.and_eq_true] at hcond
            obtain ⟨⟨⟨hjd, hdN⟩, hdst⟩, hmk⟩ := hcond
            have hj : j ∈ hdeps o := by
              simp only [List.any_eq_true] at hjd
              obtain ⟨k, hk, he⟩ := hjd
              rw [Nat.eq_of_beq_eq_true he]; exact hk
            have hji := hc.hlt ho hj
            have h := two.out h
            have hset : acc.set j (litS (.bool b)) = acc := set_self hb
            rw [hset] at h
            have hy : ∀ (val : Nat → SV), (∀ k u, k < i → acc[k]? = some u → val k = u) → ∀ (e : Env) γ S σ a w, e.N = N → (∀ j, j ∈ σ → j < m) → (∀ j, j ∈ hdeps o → j ∈ σ) → Rep e γ S (atM ops.toList val mk s σ) a w → Go.yielded ops a.tmps j = some b := by
              intro val hval e γ S σ a w hN hm hdp hR
              refine hR.yielded (d := d) hd ?_ (by rw [hN]; exact Nat.le_of_ble_eq_true hdN)
              rw [atM_have hc hm (hdp j hj) hd, hval j _ hji hb]; rfl
            have h := two.out h
            split at h
            · rename_i hyes
              have hbw : b = want := by cases want <;> cases b <;> first | rfl | cases hyes
              have hw : ∀ (val : Nat → SV), (∀ k u, k < i → acc[k]? = some u → val k = u) → ∀ (e : Env) γ S σ a w, e.N = N → (∀ j, j ∈ σ → j < m) → (∀ j, j ∈ hdeps o → j ∈ σ) → Rep e γ S (atM ops.toList val mk s σ) a w → Region.wanted o (Go.yielded ops a.tmps) = true :=
                fun val hval e γ S σ a w h1 h2 h3 h4 => by simp [Region.wanted, hg, hy val hval e γ S σ a w h1 h2 h3 h4, hbw]
              split at h
              · rename_i p v hv
                exact go acc v True hl h.2 fun val h1 h2 => StepM.val hc ho h1 (.inr rfl) hmk (hw val h1) (.inl ⟨p, v, hv, h.1, h2⟩)
              · obtain ⟨v, hcall, h⟩ := h
                exact go acc v True hl h fun val h1 h2 => StepM.val hc ho h1 (.inr rfl) hmk (hw val h1) (.inr ⟨v, hcall, h2⟩)
            · rename_i hno
              have hbw : b = !want := by cases want <;> cases b <;> first | rfl | cases hno
              exact go acc _ True hl h fun val h1 h2 => StepM.skip hc ho hdst h2 hmk fun e γ S σ a w h3 h4 h5 h6 => by
                simp [Region.wanted, hg, hy val h1 e γ S σ a w h3 h4 h5 h6, hbw]
        · exact h.elim
      · rename_i hb
        split at h
        · rename_i d hd
          cases hcond : ((hdeps o).any (Nat.beq j) && Nat.blt d N && dstOK N o.dst && nmk mk i) with
          | false => rw [hcond] at h; exact h.elim
          | true =>
            rw [hcond] at h
            simp only [cond_true] at h
            simp only [Bool.and_eq_true] at hcond
            obtain ⟨⟨⟨hjd, hdN⟩, hdst⟩, hmk⟩ := hcond
            have hj : j ∈ hdeps o := by
              simp only [List.any_eq_true] at hjd
              obtain ⟨k, hk, he⟩ := hjd
              rw [Nat.eq_of_beq_eq_true he]; exact hk
            have hji := hc.hlt ho hj
            exact go acc _ True hl h fun val h1 h2 => StepM.skip hc ho hdst h2 hmk fun e γ S σ a w h3 h4 h5 h6 => by
              have hy := h6.yielded_no (ops := ops) (j := j) (d := d) hd (by rw [atM_have hc h4 (h5 j hj) hd, h1 j _ hji hb]) (by rw [h3]; exact Nat.le_of_ble_eq_true hdN)
              simp [Region.wanted, hg, hy]
        · exact h.elim
      · exact h.elim
end
end Go.Fw
/- The framework, part 30: drawn regions in which one operation makes objects: every order that is let in comes to the same. -/
set_option linter.unusedVariables false
set_option linter.unusedSimpArgs false
namespace Go.Fw
open Go
section
variable {C : Cx} {N n0 : Nat} {ops : Array Oper} {l : List Oper} {s M : St} {Q : Exit → St → Prop} {m : Nat} {mk : Option Mk}
theorem putAllM_snoc : ∀ (s : St) (i : Nat) (l : List Oper) (vs : List SV) (o : Oper) (v : SV), l.length = vs.length → putAllM mk s i (l ++ [o]) (vs ++ [v]) = (mkAt mk (i + l.length) (putAllM mk s i l vs)).putO o.dst v
  | s, i, [], [], o, v, _ => rfl
  | s, i, x :: l, u :: vs, o, v, h => by
    simp only [List.cons_append, putAllM]
    rw [putAllM_snoc _ (i + 1) l vs o v (by simpa using h)]
    congr 2; simp only [List.length_cons]; omega
  | s, i, [], _ :: _, o, v, h => by simp at h
  | s, i, _ :: _, [], o, v, h => by simp at h
theorem atM_revRange (l : List Oper) (mk : Option Mk) (s : St) (acc : List SV) : ∀ k, k ≤ l.length → k ≤ acc.length → atM l (fun j => acc.getD j (one .any)) mk s (revRange k) = putAllM mk s 0 (l.take k) (acc.take k)
  | 0, _, _ => rfl
  | k + 1, h1, h2 => by
    rw [List.take_succ_eq_append_getElem (by omega), List.take_succ_eq_append_getElem (by omega), putAllM_snoc _ _ _ _ _ _ (by simp; omega)]
    simp only [revRange, atM]
    rw [atM_revRange l mk s acc k (by omega) (by omega)]
    have e1 : dstAt l k = (l[k]'(by omega)).dst := by simp [dstAt, List.getElem?_eq_getElem (show k < l.length by omega)]
    have e2 : acc.getD k (one .any) = acc[k]'(by omega) := by simp [List.getD_eq_getElem?_getD, List.getElem?_eq_getElem (show k < acc.length by omega)]
    have e3 : 0 + (l.take k).length = k := by simp; omega
    rw [e1, e2, e3]
structure SameM (M s : St) : Prop where
  sl : ∀ d v, lk M.sl d = some v → lk s.sl d = some v
  h : M.h = s.h
  nx : M.nx = s.nx
theorem Rep.same {e : Env} {γ : Nat → Option Value} {S : Nat → Prop} {a : Act} {w : World} (hR : Rep e γ S s a w) (h : SameM M s) : Rep e γ S M a w := hR.sub ⟨h.sl, h.h, h.nx⟩
theorem revRange_nodup : ∀ n, (revRange n).Nodup
  | 0 => .nil
  | n + 1 => List.nodup_cons.2 ⟨fun h => by have := mem_revRange.1 h; omega, revRange_nodup n⟩
theorem atM_all (hc : ChkD l m) {val : Nat → SV} {σ : List Nat} (hn : σ.Nodup) (hm : ∀ j, j ∈ σ ↔ j < m) : SameM (atM l val mk s (revRange m)) (atM l val mk s σ) := by
  have h1 := atM_h l val mk s _ (revRange_nodup m)
  have h2 := atM_h l val mk s σ hn
  have hhn : (atM l val mk s (revRange m)).h = (atM l val mk s σ).h ∧ (atM l val mk s (revRange m)).nx = (atM l val mk s σ).nx := by
    by_cases hk : ∃ k, mk = some k ∧ k.c < m
    · obtain ⟨k, h3, h4⟩ := hk
      have h5 := h1.2 k h3 (mem_revRange.2 h4)
      have h6 := h2.2 k h3 ((hm _).2 h4)
      exact ⟨h5.1.trans h6.1.symm, h5.2.trans h6.2.symm⟩
    · have h5 := h1.1 (fun k h3 h4 => hk ⟨k, h3, mem_revRange.1 h4⟩)
      have h6 := h2.1 (fun k h3 h4 => hk ⟨k, h3, (hm _).1 h4⟩)
      exact ⟨h5.1.trans h6.1.symm, h5.2.trans h6.2.symm⟩
  refine ⟨fun t v h => ?_, hhn.1, hhn.2⟩
  by_cases hj : ∃ j, j < m ∧ dstAt l j = some t
  · obtain ⟨j, h1, h2⟩ := hj
    rw [atM_have hc (fun k hk => mem_revRange.1 hk) (mem_revRange.2 h1) h2] at h
    rw [atM_have hc (fun k hk => (hm k).1 hk) ((hm j).2 h1) h2]; exact h
  · rw [atM_base (fun k hk hd => hj ⟨k, mem_revRange.1 hk, hd⟩)] at h
    rw [atM_base (fun k hk hd => hj ⟨k, (hm k).1 hk, hd⟩)]; exact h
theorem any_freeM {md : Region.Mode} {acc : List SV} (hc : ChkD ops.toList m) (hlen : acc.length = m) (hstep : ∀ k, k < m → StepM C N n0 ops m mk s (fun j => acc.getD j (one .any)) k) {e : Env} (hN : e.N = N) (h0 : e.n0 = n0)
    (hrest : JL C N n0 ops (ops.toList.drop m) (putAllM mk s 0 (ops.toList.take m) acc) Q) : ∀ (fuel : Nat) (listed : Array Bool) (a : Act) (w : World) (σ : List Nat) (γ : Nat → Option Value) (S : Nat → Prop), listed.size = ops.size →
    Ok (depF ops.toList) σ → (∀ j, j ∈ σ → j < m) → (∀ j, j < ops.size → (listed.getD j true = true ↔ j ∈ σ)) → ops.size ≤ fuel + σ.length → Rep e γ S (atM ops.toList (fun j => acc.getD j (one .any)) mk s σ) a w → wpAny C.P md ops (Post Q e) fuel listed a w := by
  have hmle : m ≤ ops.size := by simpa using hc.le
  intro fuel
  induction fuel with
  | zero =>
    intro listed a w σ γ S hs hσ hm hl hf hR
    by_cases hall : ∀ j, j < m → j ∈ σ
    · refine any_rest hc 0 listed a w m hs (Nat.le_refl _) hmle (fun j hj => ?_) ?_ ?_
      · rw [hl j hj]; exact ⟨hm j, hall j⟩
      · have := nodup_len m σ hσ.nodup hm; omega
      · have h1 := hR.same (atM_all hc hσ.nodup (fun j => ⟨hm j, hall j⟩))
        rw [atM_revRange _ _ _ _ _ (by simpa using hmle) (by omega), List.take_of_length_le (l := acc) (by omega)] at h1
        exact hrest e γ S a w hN h0 h1
    · exfalso
      apply hall
      intro j hj
      by_cases hjσ : j ∈ σ
      · exact hjσ
      · exfalso
        have := nodup_len m (j :: σ) (List.nodup_cons.2 ⟨hjσ, hσ.nodup⟩) (fun x hx => by
          rcases List.mem_cons.1 hx with rfl | hx
          · exact hj
          · exact hm x hx)
        simp only [List.length_cons] at this
        omega
  | succ fuel ih =>
    intro listed a w σ γ S hs hσ hm hl hf hR
    by_cases hall : ∀ j, j < m → j ∈ σ
    · refine any_rest hc (fuel + 1) listed a w m hs (Nat.le_refl _) hmle (fun j hj => ?_) ?_ ?_
      · rw [hl j hj]; exact ⟨hm j, hall j⟩
      · have := nodup_len m σ hσ.nodup hm; omega
      · have h1 := hR.same (atM_all hc hσ.nodup (fun j => ⟨hm j, hall j⟩))
        rw [atM_revRange _ _ _ _ _ (by simpa using hmle) (by omega), List.take_of_length_le (l := acc) (by omega)] at h1
        exact hrest e γ S a w hN h0 h1
    · refine ⟨fun hr => ?_, fun j hj => ?_⟩
      · exfalso
        apply hall
        intro j
        induction j using Nat.strongRecOn with
        | _ j ihj =>
          intro hj
          by_cases hjσ : j ∈ σ
          · exact hjσ
          · exfalso
            have h1 : listed.getD j true = false := by
              cases hb : listed.getD j true with
              | false => rfl
              | true => exact absurd ((hl j (by omega)).1 hb) hjσ
            have h2 := ready_of (md := md) hc hs (by omega : j < ops.size) h1 (fun k hk => (hl k (by omega)).2 (ihj k hk (by omega)))
            rw [hr] at h2; cases h2
      · obtain ⟨h1, h2, h3⟩ := ready_deps hs hj
        have hjσ : j ∉ σ := fun h => by rw [(hl j h1).2 h] at h2; cases h2
        have hd : ∀ o k, ops.toList[j]? = some o → k ∈ hdeps o → k ∈ σ := fun o k ho hk => by
          obtain ⟨h4, h5⟩ := h3 o ho k hk
          exact (hl k h4).1 h5
        have ho : ops.toList[j]? = some ops[j] := by simp [h1]
        have hjm : j < m := by
          rcases Nat.lt_or_ge j m with h | h
          · exact h
          · exfalso
            apply hall
            intro k hk
            exact reach_in hσ ho (fun x hx => hd _ x ho hx) (hc.all j k h (by simpa using h1) (by omega))
        refine hstep j hjm e γ S σ a w hN h0 hσ hm hjσ hd hR _ _ fun γ' S' a' w' hr => ?_
        refine ih _ a' w' (j :: σ) γ' S' (by simp [hs]) (.cons hσ hjσ (fun k hk => hd _ k ho (by rw [← depF_of ho]; exact hk))) ?_ ?_ (by simp only [List.length_cons]; omega) hr
        · intro k hk
          rcases List.mem_cons.1 hk with rfl | hk
          · exact hjm
          · exact hm k hk
        · intro k hk
          rw [listed_set hs h1, hl k hk, List.mem_cons]

/-- A call that makes objects; how they stand here is told. -/
theorem JL.nw2 {o : Oper} {f : Operand} {args : Array Operand} {tys : Array TypeId} {fid : FuncId} {svs targs : List SV} {v v' : SV} {h1 h1' : Heap} {n : Nat}
    (hg : o.guard = none) (ho : o.op = .call { callee := .value f, args := args, argTypes := tys }) (hd : dstOK N o.dst = true) (hf : s.op f = some (.c (.one (.clo fid [])))) (ha : argSV s args.toList = some svs) (hfit : Fit svs targs)
    (hc : ∀ ρ, renL ρ targs = targs) (ht : NewT C fid targs v h1 n) (hh : renH (fun i => s.nx + i) h1 = h1') (hv : (v.ren fun i => s.nx + i) = v') (k : JL C N n0 ops l (St.putO { sl := s.sl, h := h1' ++ s.h, nx := s.nx + n } o.dst v') Q) : JL C N n0 ops (o :: l) s Q := by
  subst hh; subst hv
  exact JL.nw hg ho hd hf ha hfit hc ht k
/-- A region whose order is drawn, in which one operation makes objects. -/
theorem JC.drawM {id : Nat} (m : Nat) (mk : Option Mk) (hchk : chkD ops.toList m = true)
    (h : evM C N n0 ops m mk s (fun acc => JL C N n0 ops (ops.toList.drop m) (putAllM mk s 0 (ops.toList.take m) acc) Q) (ops.toList.take m) 0 []) : JC C N n0 (.region id ops true) s Q := by
  have hc := chkD_spec hchk
  obtain ⟨acc, h1, _, h2, h3⟩ := evM_sound hc (ops.toList.take m) 0 [] rfl rfl (Nat.zero_le _) h
  intro e γ S a w hN h0 hR
  refine wp_region_draw fun t => ?_
  have key : ∀ md t, wpOps C.P ops (Post Q e) (Region.linearise md ops t) a { w with drawn := w.drawn + 1 } := by
    intro md t
    unfold Region.linearise
    refine wpAny_sound ops.size t _ a _ ?_
    refine any_freeM hc h1 (fun k hk => h3 k (Nat.zero_le _) hk) hN h0 h2 ops.size _ a _ [] γ S (by simp) .nil (fun j hj => by cases hj) (fun j hj => ?_) (by simp) (hR.drew _ (Nat.le_succ _))
    simp [hj]
  unfold Region.schedule
  split
  · exact key _ _
  · exact key _ _
end
end Go.Fw
/- The framework, part 31: a struct's cell that holds nil is a row of one's own. -/
set_option linter.unusedVariables false
set_option linter.unusedSimpArgs false
namespace Go.Fw
open Go
theorem Le.nilcell {n0 : Nat} {s : St} (id j el sz : Nat) {t : TypeId} {cs : List D} (hl : lk s.h id = some (.box t cs)) (hj : cs[j]? = some (.data (.lit (.slice none 0 0)))) :
    Le n0 s { sl := s.sl, h := (s.nx, .row el sz []) :: setO s.h id (.box t (cs.set j (.base s.nx))), nx := s.nx + 1 } := by
  intro e γ S a w _ hR
  have hm : (id, O.box t cs) ∈ s.h := lk_mem hl
  have hup : ∀ i, i ≠ s.nx → upd γ s.nx (.slice none 0 0) i = γ i := fun i h => by unfold upd; rw [if_neg h]
  have hext : ∀ id v, γ id = some v → upd γ s.nx (.slice none 0 0) id = γ id := by
    intro id v hv
    refine hup id ?_
    rintro rfl
    rw [hR.new _ (Nat.le_refl _)] at hv; cases hv
  have hids : ∀ id o, (id, o) ∈ s.h → id ≠ s.nx := fun id o h he => by have := hR.fresh id o h; omega
  have hsame : Same S w w := fun _ _ => rfl
  have hblkn : blk (upd γ s.nx (.slice none 0 0)) s.nx = none := by simp [blk, upd_self, vblk]
  have hblk : ∀ i, i ≠ s.nx → blk (upd γ s.nx (.slice none 0 0)) i = blk γ i := fun i h => by unfold blk; rw [hup i h]
  have hback : ∀ i x, (i, x) ∈ setO s.h id (.box t (cs.set j (.base s.nx))) → ∃ y, (i, y) ∈ s.h ∧ (x = y ∨ (i = id ∧ x = .box t (cs.set j (.base s.nx)))) := by
    intro i x h
    rcases mem_setO' hR.heap.keys hm h with ⟨rfl, rfl⟩ | h2
    · exact ⟨_, hm, .inr ⟨rfl, rfl⟩⟩
    · exact ⟨x, h2, .inl rfl⟩
  refine ⟨upd γ s.nx (.slice none 0 0), S, { size := hR.size, defers := hR.defers, slots := ?_, heap := ?_, fresh := ?_, kept := hR.kept, sw := hR.sw, s0 := hR.s0, sin := hR.sin, own := ?_, gam := ?_, ids := ?_, nx := ?_, h0 := hR.h0, rows := ?_, new := ?_ }⟩
  · intro i v h
    exact (hR.slots i v h).move hsame (fun _ h => h) (fun id _ => hext id)
  · refine { obj := ?_, apart := ?_, keys := ?_ }
    · intro i o h
      rcases List.mem_cons.1 h with he | h
      · cases he; exact .nil (upd_self _ _ _)
      · rcases mem_setO' hR.heap.keys hm h with ⟨rfl, rfl⟩ | h2
        · have hro := (hR.heap.obj i _ hm).move hsame (fun _ h => h) (fun i _ => hext i) (hup i (hids i _ hm)) (fun b _ => ⟨rfl, fun h => h⟩)
          cases hro with
          | box hg hh hr hS =>
            rename_i b vs
            obtain ⟨v, hv, hrv⟩ : ∃ v, vs[j]? = some v ∧ RD (upd γ s.nx (.slice none 0 0)) S w (.data (.lit (.slice none 0 0))) v := by
              have hlt : j < vs.length := by rw [← hr.length]; exact (List.getElem?_eq_some_iff.1 hj).1
              exact ⟨vs[j], List.getElem?_eq_getElem hlt, hr.get hj (List.getElem?_eq_getElem hlt)⟩
            have hve : v = .slice none 0 0 := by
              cases hrv with
              | data h => cases h; rfl
            subst hve
            have hset : vs.set j (.slice none 0 0) = vs := by
              apply List.ext_getElem?
              intro k
              rw [List.getElem?_set]
              split
              · rename_i he; subst he
                split
                · exact hv.symm
                · rename_i hlt; rw [List.getElem?_eq_none (by omega)]
              · rfl
            refine .box hg hh ?_ hS
            have := RDs.set j hr (RD.base (S := S) (w := w) (upd_self γ s.nx (.slice none 0 0)))
            rwa [hset] at this
        · exact (hR.heap.obj i o h2).move hsame (fun _ h => h) (fun i _ => hext i) (hup i (hids i o h2)) (fun b _ => ⟨rfl, fun h => h⟩)
    · intro i o i' o' h1 h2 hne b hb hb'
      rcases List.mem_cons.1 h1 with he1 | h1
      · cases he1; rw [hblkn] at hb; cases hb
      · rcases List.mem_cons.1 h2 with he2 | h2
        · cases he2; rw [hblkn] at hb'; cases hb'
        · obtain ⟨y, hy, _⟩ := hback _ _ h1
          obtain ⟨y', hy', _⟩ := hback _ _ h2
          rw [hblk _ (hids _ _ hy)] at hb; rw [hblk _ (hids _ _ hy')] at hb'
          exact hR.heap.apart _ _ _ _ hy hy' hne b hb hb'
    · simp only [List.map_cons, List.nodup_cons, setO_keys]
      refine ⟨fun h => ?_, hR.heap.keys⟩
      obtain ⟨⟨id, o'⟩, h1, h2⟩ := List.mem_map.1 h
      exact hids id o' h1 h2
  · intro i o h
    rcases List.mem_cons.1 h with he | h
    · cases he; exact Nat.lt_succ_self _
    · obtain ⟨y, hy, _⟩ := hback _ _ h
      exact Nat.lt_succ_of_lt (hR.fresh i y hy)
  · intro i o b h hb
    rcases List.mem_cons.1 h with he | h
    · cases he; rw [hblkn] at hb; cases hb
    · obtain ⟨y, hy, _⟩ := hback _ _ h
      rw [hblk _ (hids _ _ hy)] at hb; exact hR.own _ _ _ hy hb
  · intro i h1 h2
    rw [hup i (by have := hR.nx; omega)]; exact hR.gam i h1 h2
  · intro i o h
    rcases List.mem_cons.1 h with he | h
    · cases he; exact .inr hR.nx
    · obtain ⟨y, hy, _⟩ := hback _ _ h
      exact hR.ids i y hy
  · exact Nat.le_succ_of_le hR.nx
  · intro i o h h1 h2
    rcases List.mem_cons.1 h with he | h
    · cases he; have := hR.h0 _ h1; have := hR.nx; omega
    · rcases mem_setO' hR.heap.keys hm h with ⟨rfl, rfl⟩ | h3
      · cases h2
      · exact hR.rows i o h3 h1 h2
  · intro i h
    have h : s.nx + 1 ≤ i := h
    rw [hup i (by omega)]; exact hR.new i (by omega)
theorem Le.box {n0 : Nat} {s : St} (id : Nat) {t : TypeId} {cs cs' : List D} (hl : lk s.h id = some (.box t cs)) (hd : DsLe cs cs') : Le n0 s { s with h := setO s.h id (.box t cs') } := by
  intro e γ S a w _ hR
  have hm : (id, O.box t cs) ∈ s.h := lk_mem hl
  have hback : ∀ i x, (i, x) ∈ setO s.h id (.box t cs') → ∃ y, (i, y) ∈ s.h := by
    intro i x h
    rcases mem_setO' hR.heap.keys hm h with ⟨rfl, rfl⟩ | h2
    · exact ⟨_, hm⟩
    · exact ⟨x, h2⟩
  refine ⟨γ, S, { size := hR.size, defers := hR.defers, slots := hR.slots, heap := ?_, fresh := ?_, kept := hR.kept, sw := hR.sw, s0 := hR.s0, sin := hR.sin, own := ?_, gam := hR.gam, ids := ?_, nx := hR.nx, h0 := hR.h0, rows := ?_, new := hR.new }⟩
  · refine { obj := ?_, apart := ?_, keys := by rw [setO_keys]; exact hR.heap.keys }
    · intro i o h
      rcases mem_setO' hR.heap.keys hm h with ⟨rfl, rfl⟩ | h2
      · cases hR.heap.obj i _ hm with
        | box hg hh hr hS => exact .box hg hh (hd.run hr) hS
      · exact hR.heap.obj i o h2
    · intro i o i' o' h1 h2 hne b hb hb'
      obtain ⟨y, hy⟩ := hback _ _ h1
      obtain ⟨y', hy'⟩ := hback _ _ h2
      exact hR.heap.apart _ _ _ _ hy hy' hne b hb hb'
  · intro i o h
    obtain ⟨y, hy⟩ := hback _ _ h
    exact hR.fresh i y hy
  · intro i o b h hb
    obtain ⟨y, hy⟩ := hback _ _ h
    exact hR.own _ _ _ hy hb
  · intro i o h
    obtain ⟨y, hy⟩ := hback _ _ h
    exact hR.ids i y hy
  · intro i o h h1 h2
    rcases mem_setO' hR.heap.keys hm h with ⟨rfl, rfl⟩ | h3
    · cases h2
    · exact hR.rows i o h3 h1 h2
end Go.Fw
/- The framework, part 32: a row of one's own is cut short; its last part is cleared; a row of zeros. -/
set_option linter.unusedVariables false
set_option linter.unusedSimpArgs false
namespace Go.Fw
open Go
section
variable {C : Cx} {N n0 : Nat} {ops : Array Oper} {l : List Oper} {s s' : St} {Q : Exit → St → Prop} {o : Oper}
/-- What an operation that yields a value, and leaves what is told of old places alone, comes to. -/
theorem JL.val_of {s2 : St} (hg : o.guard = none) (hd : dstOK N o.dst = true) (v : SV)
    (h : ∀ e γ S a w, e.N = N → e.n0 = n0 → Rep e γ S s a w → ∃ u γ' S' w', (execOp a.eval o).run C.P w = .ok (.value u) w' ∧ Rep e γ' S' s2 a w' ∧ RV γ' S' w' v u)
    (k : JL C N n0 ops l (s2.putO o.dst v) Q) : JL C N n0 ops (o :: l) s Q := by
  intro e γ S a w h1 h2 hR
  obtain ⟨u, γ', S', w', hx, hR', hv⟩ := h e γ S a w h1 h2 hR
  exact wpList_plain hg fun K hK => upon_runs (r := some u) hx (hK _ _ (k e γ' S' _ w' h1 h2 (hR'.putO hv (by rw [h1]; exact hd))))

theorem ev_none {T : Tab} {q : EqT} {r : List Oper} {K : List Oper → St → Prop} (hg : o.guard = none) (h : stepOp T q N s o = none) (k : K (o :: r) s) : ev T q N ops (o :: r) s K := by
  unfold ev; rw [hg]; simp only [h]; exact k
/-- s[:k] of a row of one's own: that row, cut short. -/
theorem JL.shrink {x : Operand} {t : TypeId} {i j : TI} {el e : TypeId} {y : Operand} {id sz k : Nat} {kk : IntKind} {rs : List (List D)} (hg : o.guard = none) (ho : o.op = .slice t x none (some y) none) (hd : dstOK N o.dst = true) (hi : C.T t = some i) (hk : i.k = .slice e) (hj : C.T e = some j)
    (hx : s.op x = some (one (.base id))) (hl : lk s.h id = some (.row el sz rs)) (hy : s.op y = some (litS (.int kk (k : Int)))) (hlen : k ≤ rs.length)
    (k' : JL C N n0 ops l (St.putO { s.kill id with h := setO (killH s.h id) id ((O.row el sz (rs.take k)).kill id) } o.dst (one (.base id))) Q) : JL C N n0 ops (o :: l) s Q := by
  refine JL.val_of (s2 := { s.kill id with h := setO (killH s.h id) id ((O.row el sz (rs.take k)).kill id) }) hg hd (one (.base id)) (fun e' γ S a w h1 h2 hR => ?_) k'
  have hu := Tab.slice C.hT hi hk
  have hxv : RD γ S w (.base id) (a.eval x) := hR.op hx
  have hyv := litS_run rfl (hR.op hy)
  generalize hux : a.eval x = u at hxv
  cases hxv with
  | base hbg =>
    have hm := lk_mem hl
    have hob := hR.heap.obj _ _ hm
    cases hob with
    | nil hg' =>
      rename_i A
      obtain rfl := Option.some.inj (hbg.symm.trans hg')
      obtain rfl : k = 0 := by simpa using hlen
      have hro : RO (upd γ id (.slice A 0 0)) S w id ((O.row el sz ([] : List (List D))).kill id) := .nil (upd_self _ _ _)
      have hG := hR.grown (o' := (O.row el sz ([] : List (List D))).kill id) (val := .slice A 0 0) hm rfl rfl ⟨rfl, Nat.le_refl _⟩ rfl (Nat.le_refl _) (fun _ _ _ => rfl) (fun b hb => by cases A <;> simp [vblk] at hb) hro
      refine ⟨.slice A 0 0, upd γ id (.slice A 0 0), S, w, ?_, by simpa using hG, .base (upd_self _ _ _)⟩
      simp [execOp, ho, hux, hyv, Instr.sliceAt, Instr.slice, Instr.sliceBounds, Instr.sliceBound, asIntOf, run_underlying hu, Tab.sizeOf C.hT w hj]
    | row hg' hcap h0 hbig hh hrest hsz hr hS =>
      rename_i b cap vs rest
      obtain rfl := Option.some.inj (hbg.symm.trans hg')
      have hblk : blk γ id = some b := by simp only [blk, hg', Option.bind_some, vblk]; rw [if_neg (by omega)]
      have hvl : vs.length = rs.length * sz := by rw [← hr.length]; exact flatten_len sz rs hsz
      have hro : RO (upd γ id (.slice (some ⟨b, 0, none⟩) k cap)) S w id ((O.row el sz (rs.take k)).kill id) := by
        have h3 : (rs.take k).length = k := by simp; omega
        have hml : ((rs.take k).map (fun r => r.map (D.kill id))).length = k := by rw [List.length_map, h3]
        have hvs : vs ++ rest = vs.take (k * sz) ++ (vs.drop (k * sz) ++ rest) := by rw [← List.append_assoc, List.take_append_drop]
        rw [hvs] at hh
        have hk1 : k * sz ≤ rs.length * sz := Nat.mul_le_mul_right _ hlen
        refine .row (vs := vs.take (k * sz)) (rest := vs.drop (k * sz) ++ rest) (cap := cap) (b := b) ?_ ?_ h0 ?_ hh ?_ ?_ ?_ hS
        · show upd γ id _ id = _
          rw [upd_self, hml]
        · rw [hml]; omega
        · rw [hml]; omega
        · rw [hml, List.length_append, List.length_drop, hvl]; omega
        · intro r hr'
          obtain ⟨r0, hr0, rfl⟩ := List.mem_map.1 hr'
          rw [List.length_map]; exact hsz _ (List.mem_of_mem_take hr0)
        · rw [kill_flatten]
          have h4 : (rs.take k).flatten = rs.flatten.take (k * sz) := by
            have h5 := congrArg List.flatten (List.take_append_drop k rs)
            rw [List.flatten_append] at h5
            rw [← h5, List.take_left' (by rw [flatten_len sz _ (fun r hr' => hsz r (List.mem_of_mem_take hr')), h3])]
          rw [h4]
          have h6 : RDs γ S w ((rs.flatten.take (k * sz)).map (D.kill id)) (vs.take (k * sz)) := (hr.take (k * sz)).kill id
          refine h6.move (fun _ _ => rfl) (fun _ h => h) (fun i hi v hv => ?_)
          unfold upd
          rw [if_neg]
          rintro rfl
          obtain ⟨d, hd1, hd2⟩ := List.any_eq_true.1 hi
          obtain ⟨d0, _, rfl⟩ := List.mem_map.1 hd1
          rw [D.kill_has] at hd2; cases hd2
      have hG := hR.grown (o' := (O.row el sz (rs.take k)).kill id) (val := .slice (some ⟨b, 0, none⟩) k cap) hm rfl rfl ⟨rfl, Nat.le_refl _⟩ rfl (Nat.le_refl _) (fun _ _ _ => rfl) (fun b' hb' => by
        simp only [vblk] at hb'; rw [if_neg (by omega)] at hb'; simp only [Option.some.injEq] at hb'; subst hb'; exact .inl hblk) hro
      refine ⟨.slice (some ⟨b, 0, none⟩) k cap, _, S, w, ?_, hG, .base (upd_self _ _ _)⟩
      have hkc : k ≤ cap := by omega
      simp [execOp, ho, hux, hyv, Instr.sliceAt, Instr.slice, Instr.sliceBounds, Instr.sliceBound, asIntOf, run_underlying hu, Tab.sizeOf C.hT w hj, hkc, add_none]
theorem zeroCells_flat (z : Array Value) (n : Nat) (h : 0 < z.size) : (Builtin.zeroCells z n).toList = (List.replicate n z.toList).flatten := by
  apply List.ext_getElem?
  intro k
  rw [get_flatten h _ _ (by intro r hr; rw [List.eq_of_mem_replicate hr]; simp)]
  unfold Builtin.zeroCells
  by_cases hk : k < n * z.size
  · have h1 : k / z.size < n := (Nat.div_lt_iff_lt_mul h).2 hk
    have h2 : k % z.size < z.size := Nat.mod_lt _ h
    rw [List.getElem?_replicate_of_lt h1]
    simp [hk, h2, Array.getElem!_eq_getD, Array.getD]
  · have h1 : ¬ k / z.size < n := fun h1 => hk ((Nat.div_lt_iff_lt_mul h).1 h1)
    simp [hk, h1]
theorem RDs.zeros {γ : Nat → Option Value} {S : Nat → Prop} {w : World} (z : List Value) : ∀ n : Nat, RDs γ S w (List.replicate n (z.map cstD)).flatten (List.replicate n z).flatten
  | 0 => trivial
  | n + 1 => by
    simp only [List.replicate_succ, List.flatten_cons]
    exact RDs.append (RDs.cst z) (RDs.zeros z n)
/-- append(nil, make([]E, n)...): a row of so many zeros. -/
theorem JL.zeros {x y : Operand} {t t2 : TypeId} {i i2 j : TI} {e : TypeId} {z : Value} {n : Nat} (hg : o.guard = none) (ho : o.op = .call { callee := .builtin .append, args := #[x, y], argTypes := #[t, t2] }) (hd : dstOK N o.dst = true)
    (hi : C.T t = some i) (hk : i.k = .slice e) (hj : C.T e = some j) (hi2 : C.T t2 = some i2) (hk2 : i2.k = .int .i64) (hz : j.zero = some z) (hzs : z.cells.size = j.sz) (hx : s.op x = some (litS (.slice none 0 0))) (hy : s.op y = some (litS (.int .i64 (n : Int))))
    (h0 : 0 < n) (hbig : n * j.bytes ≤ big) (hb0 : n ≤ big)
    (k' : JL C N n0 ops l (St.putO (s.new (.row e j.sz (List.replicate n (z.cells.toList.map cstD)))) o.dst (one (.base s.nx))) Q) : JL C N n0 ops (o :: l) s Q := by
  refine JL.val_of (s2 := s.new (.row e j.sz (List.replicate n (z.cells.toList.map cstD)))) hg hd (one (.base s.nx)) (fun e' γ S a w h1 h2 hR => ?_) k'
  have ht := Tab.slice C.hT hi hk
  have ht2 := Tab.int C.hT hi2 hk2
  obtain ⟨info, g1, g3, g4, g5⟩ := Tab.typeInfo C.hT hj
  obtain ⟨jsz, jby, jz, jk⟩ := j
  simp only at g3 g4 g5 hz hzs hbig ⊢
  subst g3; subst g4; subst g5
  have hux := litS_run rfl (hR.op hx)
  have huy := litS_run rfl (hR.op hy)
  have hfit := growslice_fits (need := 0 + n) (old := 0) (bytes := info.bytes) (by omega) (by rw [Nat.zero_add]; exact hbig)
  rw [Nat.zero_add] at hfit
  have hb0' := hb0
  unfold big at hb0
  have h63 : ¬ (9223372036854775807 < (n : Int)) := by omega
  have h48 : ¬ (281474976710656 < Builtin.nextslicecap n 0 * info.bytes) := by omega
  have hge := grownCap_ge w n 0 e
  have hwr : IntKind.i64.wrap (n : Int) = n := wrap64 (by omega) (by omega)
  have hsz0 : 0 < z.cells.size ∨ z.cells.size = 0 := by omega
  let cells := Builtin.zeroCells z.cells n ++ Builtin.zeroCells z.cells (grownCap w n 0 e - n)
  have hrun : (execOp a.eval o).run C.P w = .ok (.value (.slice (some ⟨w.heap.size, 0, none⟩) n (grownCap w n 0 e))) (w.drew.alloc (.cells cells e (0, 0))) := by
    have h48i : ¬ (281474976710656 < (n : Int) * (info.bytes : Int)) := by
      have : ((n * info.bytes : Nat) : Int) ≤ (big : Nat) := Int.ofNat_le.2 hbig
      unfold big at this
      rw [Int.natCast_mul] at this
      omega
    have hn0 : ¬ ((n : Int) < 0) := by omega
    have hn1 : ¬ n = 0 := by omega
    simp [execOp, ho, resolve, invoke, builtin, hux, huy, Builtin.append_, run_underlying ht, run_underlying ht2, sizeOf, typeInfo, zeroValue, g1, hz, asInt, asIntOf, hwr, h48i, hn0, hn1, h63, h48, Question.forced, Builtin.firstCells, newRow, grownCap, hzs, cells]
    intro hz0
    have : Builtin.zeroCells z.cells n = #[] := Array.eq_empty_of_size_eq_zero (by rw [size_zeroCells, hzs]; exact hz0)
    rw [this, Array.empty_append]
  refine ⟨_, upd γ s.nx (.slice (some ⟨w.heap.size, 0, none⟩) n (grownCap w n 0 e)), S, _, hrun, ?_, ?_⟩
  · refine (hR.drew (w.drawn + 1) (Nat.le_succ _)).made (.cells cells e (0, 0)) ?_ ?_
    · have hgn : n ≤ grownCap w n 0 e := hge
      have hc0 : 0 < grownCap w n 0 e := by omega
      have hlen : (List.replicate n (z.cells.toList.map cstD)).length = n := List.length_replicate
      have hcells : cells = ((List.replicate n z.cells.toList).flatten ++ (Builtin.zeroCells z.cells (grownCap w n 0 e - n)).toList).toArray := by
        rcases hsz0 with h | h
        · rw [← zeroCells_flat _ _ h]
          apply Array.ext'; simp [cells]
        · have e1 : z.cells = #[] := Array.eq_empty_of_size_eq_zero h
          have e2 : ∀ m, Builtin.zeroCells z.cells m = #[] := fun m => Array.eq_empty_of_size_eq_zero (by rw [size_zeroCells, h, Nat.mul_zero])
          simp only [cells, e2]
          simp [e1]
      rw [hcells]
      refine .row (cap := grownCap w n 0 e) (b := w.heap.size) (vs := (List.replicate n z.cells.toList).flatten) (by rw [hlen]; exact upd_self _ _ _) (by rw [hlen]; exact hgn) hc0 (by rw [hlen]; exact hb0') (heap_alloc_new _ _) ?_ ?_ (RDs.zeros _ n) (fun hS => by have := hR.sw _ hS; omega)
      · rw [hlen, Array.length_toList, size_zeroCells, hzs, ← Nat.add_mul]
        congr 1; omega
      · intro r hr
        rw [List.eq_of_mem_replicate hr, List.length_map, Array.length_toList, hzs]
    · intro b hb
      simp only [vblk] at hb
      rw [if_neg (by omega)] at hb
      simpa using hb.symm
  · exact .base (upd_self _ _ _)
theorem RDs.anys {γ : Nat → Option Value} {S : Nat → Prop} {w : World} : ∀ (vs : List Value), RDs γ S w (List.replicate vs.length .any) vs
  | [] => trivial
  | v :: r => ⟨.any v, RDs.anys r⟩
/-- clear(s[lo:]). -/
theorem JL.clear {x : Operand} {t : TypeId} {i j : TI} {e el : TypeId} {z : Value} {id sz lo n : Nat} {rs : List (List D)} (hg : o.guard = none) (ho : o.op = .call { callee := .builtin .clear, args := #[x], argTypes := #[t] }) (hd : dstOK N o.dst = true)
    (hi : C.T t = some i) (hk : i.k = .slice e) (hj : C.T e = some j) (hz : j.zero = some z) (hzs : z.cells.size = j.sz) (hzc : z.cells.toList.all cellV = true) (hx : s.op x = some (one (.sub id sz lo n))) (hl : lk s.h id = some (.row el sz rs)) (hsz : j.sz = sz) (hlen : lo + n = rs.length) (h0 : 0 < n)
    (k' : JL C N n0 ops l (St.putO { s with h := setO s.h id (.row el sz (rs.take lo ++ List.replicate n (List.replicate sz .any))) } o.dst (.tup [])) Q) : JL C N n0 ops (o :: l) s Q := by
  refine JL.val_of (s2 := { s with h := setO s.h id (.row el sz (rs.take lo ++ List.replicate n (List.replicate sz .any))) }) hg hd (.tup []) (fun e' γ S a w h1 h2 hR => ?_) k'
  have hu := Tab.slice C.hT hi hk
  have hv : RD γ S w (.sub id sz lo n) (a.eval x) := hR.op hx
  generalize hux : a.eval x = u at hv
  cases hv with
  | sub hb hn =>
    rename_i b c
    have hm := lk_mem hl
    have hob := hR.heap.obj _ _ hm
    cases hob with
    | nil => simp at hlen; omega
    | row hg' hcap h0' hbig hh hrest hszr hr hS =>
      rename_i b' cap vs rest
      have hb2 : blk γ id = some b' := by simp only [blk, hg', vblk, Option.bind_some]; rw [if_neg (by omega)]
      obtain rfl := Option.some.inj (hb.symm.trans hb2)
      have hvl : vs.length = rs.length * sz := by rw [← hr.length]; exact flatten_len sz rs hszr
      have hzl : (Builtin.zeroCells z.cells n).toList.length = n * sz := by rw [Array.length_toList, size_zeroCells, hzs, hsz]
      have hmul : rs.length * sz = lo * sz + n * sz := by rw [← hlen, Nat.add_mul]
      have hone : ∀ v ∈ (Builtin.zeroCells z.cells n).toList, v.oneCell' = true := by
        intro v hv
        by_cases hz0 : 0 < z.cells.size
        · rw [zeroCells_flat _ _ hz0] at hv
          obtain ⟨l', hl', hv'⟩ := List.mem_flatten.1 hv
          rw [List.eq_of_mem_replicate hl'] at hv'
          exact oneCell_of_cellV (List.all_eq_true.1 hzc v hv')
        · have : Builtin.zeroCells z.cells n = #[] := Array.eq_empty_of_size_eq_zero (by rw [size_zeroCells, show z.cells.size = 0 by omega, Nat.mul_zero])
          rw [this] at hv; simp at hv
      have hst := run_storeCells_at C.P b (lo * sz) el (Builtin.zeroCells z.cells n).toList 0 (vs ++ rest).toArray w hh (by simp only [Nat.add_zero, List.size_toArray, List.length_append]; omega) hone
      simp only [Nat.add_zero, hzl] at hst
      have e1 : (vs ++ rest).take (lo * sz) ++ (Builtin.zeroCells z.cells n).toList ++ (vs ++ rest).drop (lo * sz + n * sz) = (vs.take (lo * sz) ++ (Builtin.zeroCells z.cells n).toList) ++ rest := by
        rw [List.take_append_of_le_length (by omega), List.drop_append_of_le_length (by omega), List.drop_of_length_le (l := vs) (by omega), List.nil_append]
      rw [e1] at hst
      refine ⟨.tuple #[], γ, S, w.setRow b ((vs.take (lo * sz) ++ (Builtin.zeroCells z.cells n).toList) ++ rest).toArray, ?_, ?_, [], rfl, trivial⟩
      · obtain ⟨m, rfl⟩ : ∃ m, n = m + 1 := ⟨n - 1, by omega⟩
        simp [execOp, ho, resolve, invoke, builtin, hux, Builtin.clear_, run_underlying hu, Tab.zero C.hT w hj hz, hst]
      · refine hR.setRow hm hb hh (o' := .row el sz (rs.take lo ++ List.replicate n (List.replicate sz .any))) rfl (fun w' h3' hs hnS => ?_)
        have hl2 : (rs.take lo ++ List.replicate n (List.replicate sz D.any)).length = rs.length := by simp; omega
        refine .row (vs := vs.take (lo * sz) ++ (Builtin.zeroCells z.cells n).toList) (rest := rest) (by rw [hl2]; exact hg') (by rw [hl2]; exact hcap) h0' (by rw [hl2]; exact hbig) h3' (by rw [hl2]; exact hrest) ?_ ?_ hnS
        · intro r hr'
          rcases List.mem_append.1 hr' with h | h
          · exact hszr _ (List.mem_of_mem_take h)
          · rw [List.eq_of_mem_replicate h]; simp
        · rw [List.flatten_append]
          refine RDs.append ?_ ?_
          · have h4 : (rs.take lo).flatten = rs.flatten.take (lo * sz) := by
              have h5 := congrArg List.flatten (List.take_append_drop lo rs)
              rw [List.flatten_append] at h5
              have h6 : (rs.take lo).length = lo := by simp; omega
              rw [← h5, List.take_left' (by rw [flatten_len sz _ (fun r hr' => hszr r (List.mem_of_mem_take hr')), h6])]
            rw [h4]
            exact (hr.take (lo * sz)).move hs (fun _ h => h) (fun _ _ _ _ => rfl)
          · have h7 : (List.replicate n (List.replicate sz D.any)).flatten = List.replicate (Builtin.zeroCells z.cells n).toList.length .any := by
              rw [hzl, List.flatten_replicate_replicate]
            rw [h7]
            exact RDs.anys _
end
end Go.Fw
/- The framework, part 33: a call that turns one row of one's own in place. -/
set_option linter.unusedVariables false
set_option linter.unusedSimpArgs false
namespace Go.Fw
open Go
section
variable {C : Cx} {N n0 : Nat} {ops : Array Oper} {l : List Oper} {s s' : St} {Q : Exit → St → Prop} {o : Oper}
theorem JL.row1 {f : Operand} {args : Array Operand} {tys : Array TypeId} {fid : FuncId} {svs args0 : List SV} {id : Nat} {o1 o1' o2 o2' : O} {v v' : SV}
    (hg : o.guard = none) (ho : o.op = .call { callee := .value f, args := args, argTypes := tys }) (hd : dstOK N o.dst = true) (hf : s.op f = some (.c (.one (.clo fid [])))) (ha : argSV s args.toList = some svs)
    (hlk : lk s.h id = some o1') (hlt : okL [id] s.nx = true) (h1 : o1.ren (rhoL [id] s.nx) = o1') (h2 : o2.ren (rhoL [id] s.nx) = o2') (hrow : o1.isRow = true) (hfit : Fit (svs ++ []) (renL (rhoL [id] s.nx) args0))
    (ht : Triple C fid args0 [(0, o1)] 1 (fun r h nx => r = .ret v ∧ h = [(0, o2)] ∧ nx = 1)) (hv : v.ren (rhoL [id] s.nx) = v')
    (k : JL C N n0 ops l (St.putO { sl := (s.kill id).sl, h := (id, o2') :: outH [id] (s.kill id).h, nx := s.nx } o.dst v') Q) : JL C N n0 ops (o :: l) s Q := by
  refine JL.have_keys fun hkeys => ?_
  have hren := Triple.ren (rhoL [id] s.nx) (Moves.list hlt) ht
  have hrow' : o1'.isRow = true := by rw [← h1, O.ren_isRow]; exact hrow
  have hri : rowIds [(id, o1')] = [id] := by simp [rowIds, hrow']
  have hki : killS s (rowIds [(id, o1')]) = s.kill id := by rw [hri]; rfl
  refine JL.call (QR := fun r h' nx' => r = .ret v' ∧ h' = [(id, o2')] ∧ nx' = s.nx) (h := [(id, o1')]) (fr := outH [id] (s.kill id).h) (caps := []) hg ho hd hf ha rfl ?_ (by simp [hids]) ?_ ?_ hfit ?_ ?_ ?_
  · intro i x h
    simp only [List.mem_singleton, Prod.mk.injEq] at h
    rw [h.1, h.2]; exact lk_mem hlk
  · intro i x h
    rw [hki]
    have := mem_outH.1 h
    exact ⟨this.1, by simp only [hids, List.map_cons, List.map_nil]; exact this.2⟩
  · refine outH_keys _ _ ?_
    show ((killH s.h id).map (·.1)).Nodup
    rw [killH_keys]; exact hkeys
  · have e1 : renH (rhoL [id] s.nx) [(0, o1)] = [(id, o1')] := by simp only [renH, h1]; rfl
    rw [e1] at hren
    refine hren.mono fun r h' nx' ⟨r0, h0, m0, ⟨q1, q2, q3⟩, q4, q5, q6⟩ => ?_
    subst q1 q2 q3
    refine ⟨by rw [q4]; simp only [Res.ren, hv], by rw [q5]; simp only [renH, h2]; rfl, by rw [q6]; simp⟩
  · rintro w h' nx' ⟨q1, q2, q3⟩
    cases q1; subst q2 q3
    rw [hki]; exact k
  · rintro w h' nx' ⟨q1, _, _⟩
    cases q1
/-- .. and leaves it where it is. -/
theorem JL.rowS {f : Operand} {args : Array Operand} {tys : Array TypeId} {fid : FuncId} {svs targs : List SV} {id : Nat} {o1 o2 : O} {v : SV}
    (hg : o.guard = none) (ho : o.op = .call { callee := .value f, args := args, argTypes := tys }) (hd : dstOK N o.dst = true) (hf : s.op f = some (.c (.one (.clo fid [])))) (ha : argSV s args.toList = some svs)
    (hlk : lk s.h id = some o1) (hfit : Fit (svs ++ []) targs)
    (ht : TripleS C fid targs [(id, o1)] s.nx (fun r h nx => r = .ret v ∧ h = [(id, o2)] ∧ nx = s.nx))
    (k : JL C N n0 ops l (St.putO { sl := s.sl, h := (id, o2) :: outH [id] s.h, nx := s.nx } o.dst v) Q) : JL C N n0 ops (o :: l) s Q := by
  refine JL.have_keys fun hkeys => ?_
  refine JL.callS (QR := fun r h' nx' => r = .ret v ∧ h' = [(id, o2)] ∧ nx' = s.nx) (h := [(id, o1)]) (fr := outH [id] s.h) (caps := []) hg ho hd hf ha rfl ?_ (by simp [hids]) ?_ ?_ hfit ht ?_ ?_
  · intro i x h
    simp only [List.mem_singleton, Prod.mk.injEq] at h
    rw [h.1, h.2]; exact lk_mem hlk
  · intro i x h
    have := mem_outH.1 h
    exact ⟨this.1, by simp only [hids, List.map_cons, List.map_nil]; exact this.2⟩
  · exact outH_keys _ _ hkeys
  · rintro w h' nx' ⟨q1, q2, q3⟩
    cases q1; subst q2 q3
    exact k
  · rintro w h' nx' ⟨q1, _, _⟩
    cases q1
end
end Go.Fw
/- The framework, part 34: drawn regions in which the compiler's order and the text's part: each order by itself. -/
set_option linter.unusedVariables false
set_option linter.unusedSimpArgs false
namespace Go.Fw
open Go
def posIn : List Nat → Nat → Nat
  | [], _ => 0
  | a :: r, i => bif Nat.beq a i then 0 else posIn r i + 1
def edgesP (md : Region.Mode) (p : List Nat) : List Edge → List Edge
  | [] => []
  | e :: r => bif Region.binds md e then ⟨posIn p e.on, .data⟩ :: edgesP md p r else edgesP md p r
def guardP (p : List Nat) : Option (Nat × Bool) → Option (Nat × Bool)
  | none => none
  | some (j, w) => some (posIn p j, w)
def operP (md : Region.Mode) (p : List Nat) (o : Oper) : Oper := { o with after := ⟨edgesP md p o.after.toList⟩, guard := guardP p o.guard }
def permL (md : Region.Mode) (p : List Nat) (l : List Oper) : List Nat → List Oper
  | [] => []
  | i :: r => match l[i]? with
    | some o => operP md p o :: permL md p l r
    | none => permL md p l r
def permP (md : Region.Mode) (p : List Nat) (ops : Array Oper) : Array Oper := ⟨permL md p ops.toList p⟩
def guardLt (n : Nat) : Option (Nat × Bool) → Bool
  | none => true
  | some (j, _) => Nat.blt j n
def permOK (p : List Nat) (l : List Oper) : Bool :=
  (below l.length fun i => match p[posIn p i]? with | some j => Nat.beq j i | none => false) && (below l.length fun k => match p[k]? with | some i => Nat.beq (posIn p i) k && Nat.blt i l.length | none => false) && Nat.beq p.length l.length &&
    l.all (fun o => o.after.toList.all (fun e => Nat.blt e.on l.length) && guardLt l.length o.guard)
structure PermOK (p : List Nat) (l : List Oper) : Prop where
  one : ∀ i, i < l.length → p[posIn p i]? = some i
  two : ∀ k, k < l.length → ∃ i, p[k]? = some i ∧ posIn p i = k ∧ i < l.length
  len : p.length = l.length
  edge : ∀ o, o ∈ l → ∀ e, e ∈ o.after.toList → e.on < l.length
  guard : ∀ o, o ∈ l → guardLt l.length o.guard = true
theorem permOK_spec {p : List Nat} {l : List Oper} (h : permOK p l = true) : PermOK p l := by
  unfold permOK at h
  simp only [Bool.and_eq_true] at h
  obtain ⟨⟨⟨h1, h2⟩, h3⟩, h4⟩ := h
  refine ⟨fun i hi => ?_, fun k hk => ?_, Nat.eq_of_beq_eq_true h3, fun o ho e he => ?_, fun o ho => ?_⟩
  · have := below_spec h1 i hi
    split at this
    · rename_i j hj; rw [hj, Nat.eq_of_beq_eq_true this]
    · cases this
  · have := below_spec h2 k hk
    split at this
    · rename_i i hi
      simp only [Bool.and_eq_true] at this
      exact ⟨i, hi, Nat.eq_of_beq_eq_true this.1, blt_lt this.2⟩
    · cases this
  · have := List.all_eq_true.1 h4 o ho
    simp only [Bool.and_eq_true] at this
    exact blt_lt (List.all_eq_true.1 this.1 e he)
  · have := List.all_eq_true.1 h4 o ho
    simp only [Bool.and_eq_true] at this
    exact this.2
theorem permL_get (md : Region.Mode) (p : List Nat) (l : List Oper) : ∀ (q : List Nat), (∀ i, i ∈ q → i < l.length) → ∀ (k : Nat), (permL md p l q)[k]? = (q[k]?).bind fun i => (l[i]?).map (operP md p)
  | [], _, k => by simp [permL]
  | i :: r, h, k => by
    have hi : i < l.length := h i (by simp)
    simp only [permL, List.getElem?_eq_getElem hi]
    cases k with
    | zero => simp [List.getElem?_eq_getElem hi]
    | succ k => simpa using permL_get md p l r (fun j hj => h j (List.mem_cons_of_mem _ hj)) k
theorem mem_edgesP {md : Region.Mode} {p : List Nat} : ∀ {l : List Edge} {e : Edge}, e ∈ edgesP md p l ↔ ∃ e0, e0 ∈ l ∧ Region.binds md e0 = true ∧ e = ⟨posIn p e0.on, .data⟩
  | [], e => by simp [edgesP]
  | a :: r, e => by
    simp only [edgesP]
    cases hb : Region.binds md a with
    | true =>
      simp only [cond_true, List.mem_cons, mem_edgesP (l := r)]
      constructor
      · rintro (rfl | ⟨e0, h1, h2, h3⟩)
        · exact ⟨a, .inl rfl, hb, rfl⟩
        · exact ⟨e0, .inr h1, h2, h3⟩
      · rintro ⟨e0, rfl | h1, h2, h3⟩
        · exact .inl h3
        · exact .inr ⟨e0, h1, h2, h3⟩
    | false =>
      simp only [cond_false, mem_edgesP (l := r), List.mem_cons]
      constructor
      · rintro ⟨e0, h1, h2, h3⟩; exact ⟨e0, .inr h1, h2, h3⟩
      · rintro ⟨e0, rfl | h1, h2, h3⟩
        · rw [hb] at h2; cases h2
        · exact ⟨e0, h1, h2, h3⟩
section
variable {P : Program} {md : Region.Mode} {p : List Nat} {ops : Array Oper} {Q : Exit → Act → World → Prop}
theorem PermOK.get (hp : PermOK p ops.toList) {i : Nat} {o : Oper} (ho : ops[i]? = some o) : (permP md p ops)[posIn p i]? = some (operP md p o) := by
  have hi : i < ops.toList.length := by simpa using (Array.getElem?_eq_some_iff.1 ho).1
  have hall : ∀ j, j ∈ p → j < ops.toList.length := by
    intro j hj
    obtain ⟨k, hk, he⟩ := List.getElem_of_mem hj
    obtain ⟨i', h1, _, h3⟩ := hp.two k (by rw [← hp.len]; exact hk)
    rw [List.getElem?_eq_getElem hk] at h1
    simp only [Option.some.injEq] at h1
    rw [← he, h1]; exact h3
  have := permL_get md p ops.toList p hall (posIn p i)
  rw [hp.one i hi] at this
  simp only [permP, List.getElem?_toArray] at this ⊢
  rw [this]
  exact (by simp [ho] : ((some i).bind fun i => Option.map (operP md p) ops.toList[i]?) = some (operP md p o))
theorem PermOK.size (hp : PermOK p ops.toList) : (permP md p ops).size = ops.size := by
  have hall : ∀ j, j ∈ p → j < ops.toList.length := by
    intro j hj
    obtain ⟨k, hk, he⟩ := List.getElem_of_mem hj
    obtain ⟨i', h1, _, h3⟩ := hp.two k (by rw [← hp.len]; exact hk)
    rw [List.getElem?_eq_getElem hk] at h1
    simp only [Option.some.injEq] at h1
    rw [← he, h1]; exact h3
  have hl : ∀ q : List Nat, (∀ i, i ∈ q → i < ops.toList.length) → (permL md p ops.toList q).length = q.length := by
    intro q
    induction q with
    | nil => simp [permL]
    | cons i r ih =>
      intro h
      have hi : i < ops.toList.length := h i (by simp)
      simp only [permL, List.getElem?_eq_getElem hi, List.length_cons, ih (fun j hj => h j (List.mem_cons_of_mem _ hj))]
  have := hl p hall
  rw [hp.len] at this
  simpa [permP] using this
theorem PermOK.lt (hp : PermOK p ops.toList) {i : Nat} (hi : i < ops.size) : posIn p i < ops.size := by
  have h1 := hp.one i (by simpa using hi)
  have h2 := (List.getElem?_eq_some_iff.1 h1).1
  have h3 := hp.len
  have h4 : ops.toList.length = ops.size := by simp
  omega
theorem PermOK.inj (hp : PermOK p ops.toList) {i j : Nat} (hi : i < ops.size) (hj : j < ops.size) (h : posIn p i = posIn p j) : i = j := by
  have h1 := hp.one i (by simpa using hi)
  have h2 := hp.one j (by simpa using hj)
  rw [h] at h1
  exact Option.some.inj (h1.symm.trans h2)
theorem getD_lt {l : Array Bool} {i : Nat} (h : i < l.size) (b : Bool) : l.getD i b = l[i] := by
  simp [Array.getD, h]
theorem PermOK.ready (hp : PermOK p ops.toList) {listed listed' : Array Bool} (hs : listed.size = ops.size) (hs' : listed'.size = ops.size) (hl : ∀ i, i < ops.size → listed'.getD (posIn p i) true = listed.getD i true) {i : Nat} (hi : i < ops.size) :
    i ∈ Region.ready md ops listed ↔ posIn p i ∈ Region.ready md (permP md p ops) listed' := by
  have ho : ops[i]? = some ops[i] := Array.getElem?_eq_getElem hi
  have hmem : ops[i] ∈ ops.toList := by simp
  have hf : ∀ j, j < ops.size → listed'.getD (posIn p j) false = listed.getD j false := by
    intro j hj
    have h1 := hl j hj
    have a1 : j < listed.size := by rw [hs]; exact hj
    have a2 : posIn p j < listed'.size := by rw [hs']; exact hp.lt hj
    rw [getD_lt a2, getD_lt a1] at h1 ⊢
    exact h1
  rw [mem_ready, mem_ready, hl i hi, ho, hp.get ho]
  refine and_congr Iff.rfl ?_
  constructor
  · rintro ⟨o, h1, h2⟩
    simp only [Option.some.injEq] at h1; subst h1
    refine ⟨_, rfl, fun e he _ => ?_⟩
    have he : e ∈ edgesP md p ops[i].after.toList := by simpa [operP] using he
    obtain ⟨e0, h3, h4, rfl⟩ := mem_edgesP.1 he
    have h5 := hp.edge _ hmem _ h3
    rw [hf _ (by simpa using h5)]
    exact h2 e0 (by simpa using h3) h4
  · rintro ⟨o, h1, h2⟩
    simp only [Option.some.injEq] at h1; subst h1
    refine ⟨_, rfl, fun e he hb => ?_⟩
    have he' : e ∈ ops[i].after.toList := by simpa using he
    have h5 := hp.edge _ hmem _ he'
    rw [← hf _ (by simpa using h5)]
    refine h2 ⟨posIn p e.on, .data⟩ ?_ (by cases md <;> rfl)
    have : (⟨posIn p e.on, .data⟩ : Edge) ∈ edgesP md p ops[i].after.toList := mem_edgesP.2 ⟨e, he', hb, rfl⟩
    simpa [operP] using this
theorem PermOK.wanted (hp : PermOK p ops.toList) {o : Oper} (ho : o ∈ ops.toList) (tmps : Array Value) : Region.wanted (operP md p o) (Go.yielded (permP md p ops) tmps) = Region.wanted o (Go.yielded ops tmps) := by
  have hg := hp.guard o ho
  unfold Region.wanted
  simp only [operP]
  cases hgd : o.guard with
  | none => rfl
  | some jw =>
    obtain ⟨j, w⟩ := jw
    rw [hgd] at hg
    have hj : j < ops.size := by simpa using blt_lt hg
    have h1 := hp.get (md := md) (Array.getElem?_eq_getElem hj)
    simp only [guardP, Go.yielded, h1, Array.getElem?_eq_getElem hj, Option.bind_some]
    rfl
theorem any_perm (hp : PermOK p ops.toList) : ∀ (fuel : Nat) (listed listed' : Array Bool) (a : Act) (w : World), listed.size = ops.size → listed'.size = ops.size → (∀ i, i < ops.size → listed'.getD (posIn p i) true = listed.getD i true) →
    wpAny P md (permP md p ops) Q fuel listed' a w → wpAny P md ops Q fuel listed a w := by
  have hnil : ∀ {listed listed' : Array Bool}, listed.size = ops.size → listed'.size = ops.size → (∀ i, i < ops.size → listed'.getD (posIn p i) true = listed.getD i true) → (Region.ready md (permP md p ops) listed' = [] ↔ Region.ready md ops listed = []) := by
    intro listed listed' hs hs' hl
    rw [List.eq_nil_iff_forall_not_mem, List.eq_nil_iff_forall_not_mem]
    constructor
    · intro h i hi
      have hlt : i < ops.size := by
        obtain ⟨_, o, h2, _⟩ := mem_ready.1 hi
        exact (Array.getElem?_eq_some_iff.1 h2).1
      exact h _ ((hp.ready hs hs' hl hlt).1 hi)
    · intro h k hk
      have hlt : k < ops.size := by
        obtain ⟨_, o, h2, _⟩ := mem_ready.1 hk
        have := (Array.getElem?_eq_some_iff.1 h2).1
        rwa [hp.size] at this
      obtain ⟨i, _, h2, h3⟩ := hp.two k (by simpa using hlt)
      have h3 : i < ops.size := by simpa using h3
      exact h i ((hp.ready hs hs' hl h3).2 (by rw [h2]; exact hk))
  intro fuel
  induction fuel with
  | zero =>
    intro listed listed' a w hs hs' hl h
    exact ⟨(hnil hs hs' hl).1 h.1, h.2⟩
  | succ fuel ih =>
    intro listed listed' a w hs hs' hl h
    refine ⟨fun hr => h.1 ((hnil hs hs' hl).2 hr), fun i hi => ?_⟩
    have hlt : i < ops.size := by
      obtain ⟨_, o, h2, _⟩ := mem_ready.1 hi
      exact (Array.getElem?_eq_some_iff.1 h2).1
    have h2 := h.2 (posIn p i) ((hp.ready hs hs' hl hlt).1 hi)
    have ho := Array.getElem?_eq_getElem hlt
    have hcont : ∀ a w, wpAny P md (permP md p ops) Q fuel (listed'.setIfInBounds (posIn p i) true) a w → wpAny P md ops Q fuel (listed.setIfInBounds i true) a w := by
      intro a w hw
      refine ih _ (listed'.setIfInBounds (posIn p i) true) a w (by simp [hs]) (by simp [hs']) (fun j hj => ?_) hw
      have e1 := listed_set (ops := ops) hs hlt j
      have e2 := listed_set (ops := ops) hs' (hp.lt hlt) (posIn p j)
      rw [Bool.eq_iff_iff, e1, e2, hl j hj]
      refine or_congr ⟨fun he => hp.inj hj hlt he, fun he => by rw [he]⟩ Iff.rfl
    unfold wpOp at h2 ⊢
    rw [hp.get ho] at h2
    rw [ho]
    simp only at h2 ⊢
    rw [hp.wanted (by simp)] at h2
    split
    · rename_i hw
      rw [if_pos hw] at h2
      rcases h2 with h3 | h3
      · left
        have h4 : ops[i].wp P a w (wpAny P md (permP md p ops) Q fuel (listed'.setIfInBounds (posIn p i) true)) Q := h3
        exact Oper.wp_mono hcont h4
      · right; exact h3
    · rename_i hw
      rw [if_neg hw] at h2
      exact hcont _ _ h2
end
section
variable {C : Cx} {N n0 : Nat} {ops : Array Oper} {s : St} {Q : Exit → St → Prop}
/-- One order of a drawn region: its first m operations as they come, the rest in order. -/
theorem anyM {md : Region.Mode} (m : Nat) (mk : Option Mk) (hchk : chkD ops.toList m = true)
    (h : evM C N n0 ops m mk s (fun acc => JL C N n0 ops (ops.toList.drop m) (putAllM mk s 0 (ops.toList.take m) acc) Q) (ops.toList.take m) 0 []) {e : Env} {γ : Nat → Option Value} {S : Nat → Prop} {a : Act} {w : World} (hN : e.N = N) (h0 : e.n0 = n0) (hR : Rep e γ S s a w) (n : Nat) (hn : w.drawn ≤ n) :
    wpAny C.P md ops (Post Q e) ops.size (Array.replicate ops.size false) a { w with drawn := n } := by
  have hc := chkD_spec hchk
  obtain ⟨acc, h1, _, h2, h3⟩ := evM_sound hc (ops.toList.take m) 0 [] rfl rfl (Nat.zero_le _) h
  refine any_freeM hc h1 (fun k hk => h3 k (Nat.zero_le _) hk) hN h0 h2 ops.size _ a _ [] γ S (by simp) .nil (fun j hj => by cases hj) (fun j hj => ?_) (by simp) (hR.drew _ hn)
  simp [hj]
/-- What is shown of one order: a list of places, of which the first m are free. -/
def ordOK (C : Cx) (N n0 : Nat) (ops : Array Oper) (p : List Nat) (m : Nat) (mk : Option Mk) (s : St) (Q : Exit → St → Prop) : Prop :=
  evM C N n0 (permP .any p ops) m mk s (fun acc => JL C N n0 (permP .any p ops) ((permP .any p ops).toList.drop m) (putAllM mk s 0 ((permP .any p ops).toList.take m) acc) Q) ((permP .any p ops).toList.take m) 0 []
/-- A list of places as the drawn order may give it. -/
inductive Valid (ops : Array Oper) : Array Bool → List Nat → Prop
  | nil {listed : Array Bool} (h : Region.ready .any ops listed = []) : Valid ops listed []
  | cons {listed : Array Bool} {i : Nat} {l : List Nat} (h : i ∈ Region.ready .any ops listed) (hr : Valid ops (listed.setIfInBounds i true) l) : Valid ops listed (i :: l)
theorem Valid.sound {P : Program} {R : Exit → Act → World → Prop} {listed : Array Bool} {l : List Nat} (h : Valid ops listed l) : ∀ (fuel : Nat) (a : Act) (w : World), l.length ≤ fuel → wpAny P .any ops R fuel listed a w → wpOps P ops R l a w := by
  induction h with
  | nil h =>
    intro fuel a w _ hw
    cases fuel with
    | zero => exact hw.2
    | succ fuel => exact hw.1 h
  | cons hi hr ih =>
    intro fuel a w hl hw
    cases fuel with
    | zero => simp at hl
    | succ fuel =>
      rw [wpOps_cons]
      have h2 := hw.2 _ hi
      unfold wpOp at h2 ⊢
      split
      · rename_i ho; rw [ho] at h2; exact ih fuel _ _ (by simpa using hl) h2
      · rename_i o ho
        rw [ho] at h2
        simp only at h2 ⊢
        split
        · rename_i hw'
          rw [if_pos hw'] at h2
          exact h2.imp (Oper.wp_mono fun a w hk => ih fuel a w (by simpa using hl) hk) id
        · rename_i hw'
          rw [if_neg hw'] at h2
          exact ih fuel _ _ (by simpa using hl) h2
/-! ### One edge more -/
def addL (j : Nat) : Nat → List Oper → List Oper
  | _, [] => []
  | 0, o :: r => { o with after := ⟨⟨j, .data⟩ :: o.after.toList⟩ } :: r
  | n + 1, o :: r => o :: addL j n r
def addE (i j : Nat) (ops : Array Oper) : Array Oper := ⟨addL j i ops.toList⟩
def edgeO (j : Nat) (o : Oper) : Oper := { o with after := ⟨⟨j, .data⟩ :: o.after.toList⟩ }
theorem addL_get (j : Nat) : ∀ (i : Nat) (l : List Oper) (k : Nat), (addL j i l)[k]? = if k = i then (l[k]?).map (edgeO j) else l[k]?
  | i, [], k => by simp [addL]
  | 0, o :: r, k => by
    cases k with
    | zero => simp [addL, edgeO]
    | succ k => simp [addL]
  | i + 1, o :: r, k => by
    cases k with
    | zero => simp [addL]
    | succ k => simpa [addL] using addL_get j i r k
theorem addE_get (i j k : Nat) : (addE i j ops)[k]? = if k = i then (ops[k]?).map (edgeO j) else ops[k]? := by
  have := addL_get j i ops.toList k
  simpa [addE] using this
theorem addE_size (i j : Nat) : (addE i j ops).size = ops.size := by
  have : ∀ (i : Nat) (l : List Oper), (addL j i l).length = l.length := by
    intro i l
    induction l generalizing i with
    | nil => simp [addL]
    | cons o r ih => cases i with | zero => simp [addL] | succ i => simp [addL, ih]
  have h := this i ops.toList
  simpa [addE] using h
theorem addE_yielded (i j : Nat) (tmps : Array Value) (k : Nat) : Go.yielded (addE i j ops) tmps k = Go.yielded ops tmps k := by
  have e : ((addE i j ops)[k]?).bind (·.dst) = (ops[k]?).bind (·.dst) := by
    rw [addE_get]
    split
    · cases ops[k]? <;> rfl
    · rfl
  simp only [Go.yielded, e]
theorem addE_wpOps {P : Program} {R : Exit → Act → World → Prop} (i j : Nat) : ∀ (l : List Nat) (a : Act) (w : World), wpOps P (addE i j ops) R l a w → wpOps P ops R l a w
  | [], _, _, h => h
  | k :: l, a, w, h => by
    rw [wpOps_cons] at h ⊢
    unfold wpOp at h ⊢
    rw [addE_get] at h
    have hy : Go.yielded (addE i j ops) a.tmps = Go.yielded ops a.tmps := funext fun k => addE_yielded i j a.tmps k
    rw [hy] at h
    cases ho : ops[k]? with
    | none =>
      rw [ho] at h
      have e : (if k = i then Option.map (edgeO j) (none : Option Oper) else none) = none := by split <;> rfl
      rw [e] at h
      exact addE_wpOps i j l a w h
    | some o =>
      rw [ho] at h
      have hcont : ∀ a w, wpOps P (addE i j ops) R l a w → wpOps P ops R l a w := fun a w => addE_wpOps i j l a w
      have h : if Region.wanted o (Go.yielded ops a.tmps) = true then o.wp P a w (wpOps P (addE i j ops) R l) R ∨ (o.asks P a w ∧ LetsOut R) else wpOps P (addE i j ops) R l (a.put o.dst undef) w := by
        by_cases hk : k = i
        · rw [if_pos hk] at h; exact h
        · rw [if_neg hk] at h; exact h
      simp only
      split
      · rename_i hw; rw [if_pos hw] at h; exact h.imp (Oper.wp_mono hcont) id
      · rename_i hw; rw [if_neg hw] at h; exact hcont _ _ h
theorem addE_ready {i j : Nat} {listed : Array Bool} {k : Nat} : k ∈ Region.ready .any (addE i j ops) listed ↔ k ∈ Region.ready .any ops listed ∧ (k = i → listed.getD j false = true) := by
  rw [mem_ready, mem_ready, addE_get]
  constructor
  · rintro ⟨h1, o, h2, h3⟩
    by_cases hk : k = i
    · rw [if_pos hk] at h2
      obtain ⟨o0, h4, h5⟩ := Option.map_eq_some_iff.1 h2
      subst h5
      exact ⟨⟨h1, o0, h4, fun e he hb => h3 e (by simp [edgeO]; exact .inr (by simpa using he)) hb⟩, fun _ => h3 ⟨j, .data⟩ (by simp [edgeO]) rfl⟩
    · rw [if_neg hk] at h2
      exact ⟨⟨h1, o, h2, h3⟩, fun h => absurd h hk⟩
  · rintro ⟨⟨h1, o, h2, h3⟩, h4⟩
    by_cases hk : k = i
    · rw [if_pos hk]
      refine ⟨h1, edgeO j o, by rw [h2]; rfl, fun e he hb => ?_⟩
      simp only [edgeO, List.mem_toArray, List.mem_cons] at he
      rcases he with rfl | he
      · exact h4 hk
      · exact h3 e (by simpa using he) hb
    · rw [if_neg hk]
      exact ⟨h1, o, h2, h3⟩
theorem setB {l : Array Bool} {i j : Nat} (hj : j < l.size) (h : l.getD j false = true) : (l.setIfInBounds i true).getD j false = true := by
  rw [getD_lt hj] at h
  rw [getD_lt (by simpa using hj)]
  by_cases he : i = j
  · subst he; simp
  · rw [Array.getElem_setIfInBounds_ne]; exact h; exact he
theorem Valid.done {i j : Nat} {listed : Array Bool} {l : List Nat} (h : Valid ops listed l) : j < listed.size → listed.getD j false = true → Valid (addE i j ops) listed l := by
  induction h with
  | nil h =>
    intro _ _
    refine .nil ?_
    rw [List.eq_nil_iff_forall_not_mem] at h ⊢
    exact fun k hk => h k (addE_ready.1 hk).1
  | cons hi hr ih =>
    intro hjs hj
    exact .cons (addE_ready.2 ⟨hi, fun _ => hj⟩) (ih (by simpa using hjs) (setB hjs hj))
theorem Valid.split {x y : Nat} (hne : x ≠ y) {listed : Array Bool} {l : List Nat} (h : Valid ops listed l) : listed.size = ops.size → x < ops.size → y < ops.size → Valid (addE y x ops) listed l ∨ Valid (addE x y ops) listed l := by
  induction h with
  | nil h =>
    intro _ _ _
    refine .inl (.nil ?_)
    rw [List.eq_nil_iff_forall_not_mem] at h ⊢
    exact fun k hk => h k (addE_ready.1 hk).1
  | cons hi hr ih =>
    rename_i lst i l'
    intro hs hx hy
    have hset : ∀ {z}, z < ops.size → i = z → (lst.setIfInBounds i true).getD z false = true := by
      intro z hz he
      subst he
      rw [getD_lt (by simpa [hs] using hz)]
      simp
    by_cases h1 : i = x
    · left
      refine .cons (addE_ready.2 ⟨hi, fun h2 => absurd (h1.symm.trans h2) hne⟩) (hr.done (by simpa [hs] using hx) (hset hx h1))
    · by_cases h2 : i = y
      · right
        refine .cons (addE_ready.2 ⟨hi, fun h3 => absurd h3 h1⟩) (hr.done (by simpa [hs] using hy) (hset hy h2))
      · rcases ih (by simp [hs]) hx hy with h3 | h3
        · exact .inl (.cons (addE_ready.2 ⟨hi, fun h4 => absurd h4 h2⟩) h3)
        · exact .inr (.cons (addE_ready.2 ⟨hi, fun h4 => absurd h4 h1⟩) h3)
theorem ready_sub {listed : Array Bool} {i : Nat} (h : i ∈ Region.ready .any ops listed) : i < ops.size ∧ listed.getD i true = false := by
  obtain ⟨h1, o, h2, _⟩ := mem_ready.1 h
  exact ⟨(Array.getElem?_eq_some_iff.1 h2).1, h1⟩
/-- How many are not listed yet. -/
def openN (listed : Array Bool) : Nat := listed.toList.countP (fun b => !b)
theorem openN_set {listed : Array Bool} {i : Nat} (hi : i < listed.size) (h : listed.getD i true = false) : openN (listed.setIfInBounds i true) + 1 = openN listed := by
  rw [getD_lt hi] at h
  have h0 : i < listed.toList.length := by simpa using hi
  have h1 : listed.toList[i] = false := by simpa using h
  have hpos : 0 < listed.toList.countP (fun b => !b) := List.countP_pos_iff.2 ⟨listed.toList[i], List.getElem_mem h0, by rw [h1]; rfl⟩
  unfold openN
  rw [Array.toList_setIfInBounds, List.countP_set h0, h1]
  simp only [Bool.not_false, if_true, Bool.not_true, Bool.false_eq_true, if_false]
  omega
theorem valid_go : ∀ (fuel t : Nat) (listed : Array Bool), listed.size = ops.size → openN listed ≤ fuel → Valid ops listed (Region.linearise.go .any ops fuel t listed []) := by
  intro fuel
  induction fuel with
  | zero =>
    intro t listed hs ho
    simp only [Region.linearise.go, List.reverse_nil]
    refine .nil ?_
    rw [List.eq_nil_iff_forall_not_mem]
    intro k hk
    obtain ⟨h1, h2⟩ := ready_sub hk
    have := openN_set (by rw [hs]; exact h1) h2
    omega
  | succ fuel ih =>
    intro t listed hs ho
    simp only [Region.linearise.go]
    change Valid ops listed (match (Region.ready .any ops listed)[t % (Region.ready .any ops listed).length]? with
      | some i => Region.linearise.go .any ops fuel (t / (Region.ready .any ops listed).length) (listed.setIfInBounds i true) [i]
      | none => [].reverse)
    cases hi : (Region.ready .any ops listed)[t % (Region.ready .any ops listed).length]? with
    | none =>
      refine .nil ?_
      cases hr : Region.ready .any ops listed with
      | nil => rfl
      | cons x xs =>
        rw [hr] at hi
        have hlt : t % (x :: xs).length < (x :: xs).length := Nat.mod_lt _ (by simp)
        simp at hi
        simp at hlt
        omega
    | some i =>
      simp only []
      rw [linearise_go_acc, List.reverse_singleton, List.singleton_append]
      have hm := List.mem_of_getElem? hi
      obtain ⟨h1, h2⟩ := ready_sub hm
      have := openN_set (by rw [hs]; exact h1) h2
      exact .cons hm (ih _ _ (by simp [hs]) (by omega))
theorem Valid.len {listed : Array Bool} {l : List Nat} (h : Valid ops listed l) : listed.size = ops.size → l.length ≤ openN listed := by
  induction h with
  | nil h => intro _; exact Nat.zero_le _
  | cons hi hr ih =>
    intro hs
    obtain ⟨h1, h2⟩ := ready_sub hi
    have := openN_set (by rw [hs]; exact h1) h2
    have := ih (by simp [hs])
    simp only [List.length_cons]; omega
theorem openN_rep (n : Nat) : openN (Array.replicate n false) = n := by simp [openN, List.countP_replicate]
/-- Every order of a region. -/
def AnyOK (C : Cx) (N n0 : Nat) (ops : Array Oper) (s : St) (Q : Exit → St → Prop) : Prop :=
  ∀ (e : Env) γ S a w, e.N = N → e.n0 = n0 → Rep e γ S s a w → ∀ n, w.drawn ≤ n → ∀ l, Valid ops (Array.replicate ops.size false) l → l.length ≤ ops.size → wpOps C.P ops (Post Q e) l a { w with drawn := n }
theorem AnyOK.ord (p : List Nat) (m : Nat) (mk : Option Mk) (hp : permOK p ops.toList = true) (hc : chkD (permP .any p ops).toList m = true) (h : ordOK C N n0 ops p m mk s Q) : AnyOK C N n0 ops s Q := by
  intro e γ S a w hN h0 hR n hn l hl hlen
  refine hl.sound ops.size _ _ hlen ?_
  have hP := permOK_spec hp
  refine any_perm hP ops.size _ (Array.replicate (permP .any p ops).size false) a _ (by simp) (by simp [hP.size]) (fun i hi => ?_) ?_
  · have := hP.lt hi
    rw [getD_lt (by simpa [hP.size] using this), getD_lt (by simpa using hi)]
    simp
  · have := anyM (md := .any) m mk hc h hN h0 hR n hn
    rw [hP.size] at this ⊢
    exact this
theorem AnyOK.split (x y : Nat) (hne : Nat.beq x y = false) (hx : Nat.blt x ops.toList.length = true) (hy : Nat.blt y ops.toList.length = true) (h1 : AnyOK C N n0 (addE y x ops) s Q) (h2 : AnyOK C N n0 (addE x y ops) s Q) : AnyOK C N n0 ops s Q := by
  intro e γ S a w hN h0 hR n hn l hl hlen
  rcases hl.split (x := x) (y := y) (fun he => by rw [he] at hne; simp at hne) (by simp) (by simpa using blt_lt hx) (by simpa using blt_lt hy) with h | h
  · exact addE_wpOps _ _ _ _ _ (h1 e γ S a w hN h0 hR n hn l (by rw [addE_size]; exact h) (by rw [addE_size]; exact hlen))
  · exact addE_wpOps _ _ _ _ _ (h2 e γ S a w hN h0 hR n hn l (by rw [addE_size]; exact h) (by rw [addE_size]; exact hlen))
theorem JC.drawA {id : Nat} (hmix : C.P.follows .mixedOrders = true) (h : AnyOK C N n0 ops s Q) : JC C N n0 (.region id ops true) s Q := by
  intro e γ S a w hN h0 hR
  refine wp_region_draw fun t => ?_
  unfold Region.schedule
  rw [hmix]
  simp only [Bool.true_or, if_true]
  refine h e γ S a w hN h0 hR (w.drawn + 1) (Nat.le_succ _) _ ?_ ?_
  · exact valid_go _ _ _ (by simp) (by rw [openN_rep]; exact Nat.le_refl _)
  · have := (valid_go (ops := ops) ops.size t (Array.replicate ops.size false) (by simp) (by rw [openN_rep]; exact Nat.le_refl _)).len (by simp)
    rwa [openN_rep] at this
/-- A state in between. -/
theorem JC.cut {c1 c2 : Code} (s1 : St) (h : JC C N n0 c1 s (fun x s' => x = .normal ∧ Le n0 s' s1)) (k : JC C N n0 c2 s1 Q) : JC C N n0 (.seq c1 c2) s Q :=
  JC.seq (h.mono fun x s' ⟨hx, hl⟩ => by subst hx; exact JC.conv hl k)
end
end Go.Fw
